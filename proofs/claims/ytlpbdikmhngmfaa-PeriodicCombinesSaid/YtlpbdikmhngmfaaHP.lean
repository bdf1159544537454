/-
  Canonical lists of spans, as sets of integers. No program here.
  Canonical lists of spans: by their ends; lists that are cut out by a rule. No program here.
  Periodic sets: how far a set may be moved. No program here.
  Periodic sets: the least period, the form of a set, and that a set has one form. No program here.
  Two canonical lists gone through at the same time, by their ends. No program here.
  Spans anywhere, taken modulo a period. No program here.
  Counting the numbers of a set. No program here.
-/
import Derived.Test.YtlpbdikmhngmfaaPure
import Derived.Test.YtlpbdikmhngmfaaCalP
namespace Go.Proofs.Ytlpbdikmhngmfaa
open Go.RowKit
section
def Mem (l : List (Int × Int)) (x : Int) : Prop := ∃ s ∈ l, s.1 ≤ x ∧ x < s.2
def memB (l : List (Int × Int)) (x : Int) : Bool := l.any fun s => decide (s.1 ≤ x) && decide (x < s.2)
theorem memB_iff {l : List (Int × Int)} {x : Int} : memB l x = true ↔ Mem l x := by simp [memB, Mem]
theorem memB_false {l : List (Int × Int)} {x : Int} : memB l x = false ↔ ¬ Mem l x := by rw [← memB_iff]; simp
theorem mem_nil (x : Int) : ¬ Mem [] x := fun ⟨_, h, _⟩ => by cases h
theorem mem_cons {s : Int × Int} {l : List (Int × Int)} {x : Int} : Mem (s :: l) x ↔ (s.1 ≤ x ∧ x < s.2) ∨ Mem l x := by
  simp [Mem]
theorem mem_app {l l' : List (Int × Int)} {x : Int} : Mem (l ++ l') x ↔ Mem l x ∨ Mem l' x := by
  simp only [Mem, List.mem_append]
  constructor
  · rintro ⟨s, h | h, h2⟩
    · exact .inl ⟨s, h, h2⟩
    · exact .inr ⟨s, h, h2⟩
  · rintro (⟨s, h, h2⟩ | ⟨s, h, h2⟩)
    · exact ⟨s, .inl h, h2⟩
    · exact ⟨s, .inr h, h2⟩
theorem mem_one {s : Int × Int} {x : Int} : Mem [s] x ↔ s.1 ≤ x ∧ x < s.2 := by simp [Mem]
theorem mem_perm {l l' : List (Int × Int)} (h : l.Perm l') {x : Int} : Mem l x ↔ Mem l' x := by
  unfold Mem
  exact ⟨fun ⟨s, h1, h2⟩ => ⟨s, h.mem_iff.1 h1, h2⟩, fun ⟨s, h1, h2⟩ => ⟨s, h.mem_iff.2 h1, h2⟩⟩

/-- spans that are not empty, apart from one another, in order -/
structure Can (l : List (Int × Int)) : Prop where
  ne : ∀ s ∈ l, s.1 < s.2
  pw : l.Pairwise fun a b => a.2 < b.1
theorem Can.nil : Can [] := ⟨fun s h => (by cases h), List.Pairwise.nil⟩
theorem Can.tail {s : Int × Int} {l : List (Int × Int)} (h : Can (s :: l)) : Can l := ⟨fun t ht => h.ne t (List.mem_cons_of_mem _ ht), (List.pairwise_cons.1 h.pw).2⟩
theorem Can.one {s : Int × Int} (h : s.1 < s.2) : Can [s] := ⟨fun t ht => by rw [List.mem_singleton.1 ht]; exact h, List.pairwise_singleton _ _⟩
theorem Can.snoc {l : List (Int × Int)} {s : Int × Int} (h : Can l) (hs : s.1 < s.2) (hl : ∀ t ∈ l, t.2 < s.1) : Can (l ++ [s]) := by
  refine ⟨fun t ht => ?_, List.pairwise_append.2 ⟨h.pw, List.pairwise_singleton _ _, fun t ht u hu => ?_⟩⟩
  · rcases List.mem_append.1 ht with ht | ht
    · exact h.ne t ht
    · rw [List.mem_singleton.1 ht]; exact hs
  · rw [List.mem_singleton.1 hu]; exact hl t ht
theorem Can.init {l : List (Int × Int)} {s : Int × Int} (h : Can (l ++ [s])) : Can l ∧ s.1 < s.2 ∧ ∀ t ∈ l, t.2 < s.1 := by
  obtain ⟨h1, _, h3⟩ := List.pairwise_append.1 h.pw
  exact ⟨⟨fun t ht => h.ne t (List.mem_append_left _ ht), h1⟩, h.ne s (by simp), fun t ht => h3 t ht s (by simp)⟩
theorem Can.last_le {l : List (Int × Int)} {s : Int × Int} (h : Can (l ++ [s])) : ∀ t ∈ l ++ [s], t.2 ≤ s.2 := by
  obtain ⟨_, h2, h3⟩ := h.init
  intro t ht
  rcases List.mem_append.1 ht with ht | ht
  · have := h3 t ht; omega
  · rw [List.mem_singleton.1 ht]; exact Int.le_refl _
theorem Can.cons_lt {s : Int × Int} {l : List (Int × Int)} (h : Can (s :: l)) {x : Int} (hx : Mem l x) : s.2 < x := by
  obtain ⟨t, ht, h1, h2⟩ := hx
  have := (List.pairwise_cons.1 h.pw).1 t ht
  omega
/-- a canonical list is known by its members -/
theorem can_unique : ∀ {l l' : List (Int × Int)}, Can l → Can l' → (∀ x, Mem l x ↔ Mem l' x) → l = l' := by
  intro l
  induction l with
  | nil =>
    intro l' _ h' hm
    cases l' with
    | nil => rfl
    | cons t l' =>
      have := (hm t.1).2 (mem_cons.2 (.inl ⟨Int.le_refl _, h'.ne t (by simp)⟩))
      exact absurd this (mem_nil _)
  | cons s l ih =>
    intro l' h h' hm
    cases l' with
    | nil =>
      have := (hm s.1).1 (mem_cons.2 (.inl ⟨Int.le_refl _, h.ne s (by simp)⟩))
      exact absurd this (mem_nil _)
    | cons t l' =>
      have hs := h.ne s (by simp)
      have ht := h'.ne t (by simp)
      have h1 := (hm s.1).1 (mem_cons.2 (.inl ⟨Int.le_refl _, hs⟩))
      have h2 := (hm t.1).2 (mem_cons.2 (.inl ⟨Int.le_refl _, ht⟩))
      have a1 : t.1 ≤ s.1 := by
        rcases mem_cons.1 h1 with h3 | h3
        · exact h3.1
        · have := h'.cons_lt h3; omega
      have a2 : s.1 ≤ t.1 := by
        rcases mem_cons.1 h2 with h3 | h3
        · exact h3.1
        · have := h.cons_lt h3; omega
      have b1 : s.2 ≤ t.2 := by
        rcases Int.lt_or_le t.2 s.2 with h3 | h3
        · exfalso
          have h4 := (hm t.2).1 (mem_cons.2 (.inl ⟨by omega, h3⟩))
          rcases mem_cons.1 h4 with h5 | h5
          · omega
          · have := h'.cons_lt h5; omega
        · exact h3
      have b2 : t.2 ≤ s.2 := by
        rcases Int.lt_or_le s.2 t.2 with h3 | h3
        · exfalso
          have h4 := (hm s.2).2 (mem_cons.2 (.inl ⟨by omega, h3⟩))
          rcases mem_cons.1 h4 with h5 | h5
          · omega
          · have := h.cons_lt h5; omega
        · exact h3
      have hst : s = t := Prod.ext (by omega) (by omega)
      subst hst
      congr 1
      refine ih h.tail h'.tail fun x => ⟨fun hx => ?_, fun hx => ?_⟩
      · have h3 := h.cons_lt hx
        rcases mem_cons.1 ((hm x).1 (mem_cons.2 (.inr hx))) with h4 | h4
        · omega
        · exact h4
      · have h3 := h'.cons_lt hx
        rcases mem_cons.1 ((hm x).2 (mem_cons.2 (.inr hx))) with h4 | h4
        · omega
        · exact h4

/-! one span more, that begins where the last one ends, or behind it -/
def addS (l : List (Int × Int)) (s : Int × Int) : List (Int × Int) :=
  match l.getLast? with
  | some t => if t.2 = s.1 then l.dropLast ++ [(t.1, s.2)] else l ++ [s]
  | none => l ++ [s]
theorem addS_nil (s : Int × Int) : addS [] s = [s] := rfl
theorem addS_snoc (l : List (Int × Int)) (t s : Int × Int) : addS (l ++ [t]) s = if t.2 = s.1 then l ++ [(t.1, s.2)] else l ++ [t] ++ [s] := by
  simp [addS]
theorem addS_ok {l : List (Int × Int)} {s : Int × Int} (h : Can l) (hs : s.1 < s.2) (hl : ∀ t ∈ l, t.2 ≤ s.1) : Can (addS l s) ∧ (∀ x, Mem (addS l s) x ↔ Mem l x ∨ (s.1 ≤ x ∧ x < s.2)) ∧ ∀ t ∈ addS l s, t.2 ≤ s.2 := by
  rcases List.eq_nil_or_concat l with rfl | ⟨l, t, rfl⟩
  · rw [addS_nil]
    exact ⟨Can.one hs, fun x => by rw [mem_one]; simp [mem_nil], fun t ht => by rw [List.mem_singleton.1 ht]; exact Int.le_refl _⟩
  · rw [List.concat_eq_append] at h hl ⊢
    rw [addS_snoc]
    obtain ⟨h1, h2, h3⟩ := h.init
    have ht := hl t (by simp)
    by_cases e : t.2 = s.1
    · rw [if_pos e]
      refine ⟨h1.snoc (by simp only []; omega) h3, fun x => ?_, fun u hu => ?_⟩
      · rw [mem_app, mem_app, mem_one, mem_one]
        simp only []
        constructor
        · rintro (h | ⟨h, h'⟩)
          · exact .inl (.inl h)
          · by_cases hx : x < t.2
            · exact .inl (.inr ⟨h, hx⟩)
            · exact .inr ⟨by omega, h'⟩
        · rintro ((h | h) | h)
          · exact .inl h
          · exact .inr ⟨h.1, by omega⟩
          · exact .inr ⟨by omega, h.2⟩
      · rcases List.mem_append.1 hu with hu | hu
        · have := h3 u hu; omega
        · rw [List.mem_singleton.1 hu]; exact Int.le_refl _
    · rw [if_neg e]
      refine ⟨h.snoc hs fun u hu => ?_, fun x => by rw [mem_app, mem_one], fun u hu => ?_⟩
      · have := h.last_le u hu; omega
      · rcases List.mem_append.1 hu with hu | hu
        · have := hl u hu; omega
        · rw [List.mem_singleton.1 hu]; exact Int.le_refl _

/-! a span that begins behind where the last one begins -/
def joinS (l : List (Int × Int)) (s : Int × Int) : List (Int × Int) :=
  match l.getLast? with
  | some t => if s.1 ≤ t.2 then l.dropLast ++ [(t.1, max t.2 s.2)] else l ++ [s]
  | none => l ++ [s]
theorem joinS_nil (s : Int × Int) : joinS [] s = [s] := rfl
theorem joinS_snoc (l : List (Int × Int)) (t s : Int × Int) : joinS (l ++ [t]) s = if s.1 ≤ t.2 then l ++ [(t.1, max t.2 s.2)] else l ++ [t] ++ [s] := by
  simp [joinS]
theorem joinS_ok {l : List (Int × Int)} {s : Int × Int} (h : Can l) (hs : s.1 < s.2) (hl : ∀ t ∈ l, t.1 ≤ s.1) : Can (joinS l s) ∧ (∀ x, Mem (joinS l s) x ↔ Mem l x ∨ (s.1 ≤ x ∧ x < s.2)) ∧ ∀ t ∈ joinS l s, t.1 ≤ s.1 := by
  rcases List.eq_nil_or_concat l with rfl | ⟨l, t, rfl⟩
  · rw [joinS_nil]
    exact ⟨Can.one hs, fun x => by rw [mem_one]; simp [mem_nil], fun t ht => by rw [List.mem_singleton.1 ht]; exact Int.le_refl _⟩
  · rw [List.concat_eq_append] at h hl ⊢
    rw [joinS_snoc]
    obtain ⟨h1, h2, h3⟩ := h.init
    have ht := hl t (by simp)
    by_cases e : s.1 ≤ t.2
    · rw [if_pos e]
      refine ⟨h1.snoc (by simp only []; omega) h3, fun x => ?_, fun u hu => ?_⟩
      · rw [mem_app, mem_app, mem_one, mem_one]
        simp only []
        constructor
        · rintro (h | ⟨h, h'⟩)
          · exact .inl (.inl h)
          · by_cases hx : x < t.2
            · exact .inl (.inr ⟨h, hx⟩)
            · exact .inr ⟨by omega, by omega⟩
        · rintro ((h | h) | h)
          · exact .inl h
          · exact .inr ⟨h.1, by omega⟩
          · exact .inr ⟨by omega, by omega⟩
      · rcases List.mem_append.1 hu with hu | hu
        · exact hl u (by simp [hu])
        · rw [List.mem_singleton.1 hu]; exact ht
    · rw [if_neg e]
      refine ⟨h.snoc hs fun u hu => ?_, fun x => by rw [mem_app, mem_one], fun u hu => ?_⟩
      · have := h.last_le u hu; omega
      · rcases List.mem_append.1 hu with hu | hu
        · exact hl u hu
        · rw [List.mem_singleton.1 hu]; exact Int.le_refl _
/-- the canonical list of spans that lie in order of their beginnings -/
def joinL (l : List (Int × Int)) : List (Int × Int) := l.foldl joinS []
theorem joinL_ok : ∀ {l : List (Int × Int)} {acc : List (Int × Int)}, Can acc → (∀ s ∈ l, s.1 < s.2) → l.Pairwise (fun a b => a.1 ≤ b.1) → (∀ t ∈ acc, ∀ s ∈ l, t.1 ≤ s.1) →
    Can (l.foldl joinS acc) ∧ ∀ x, Mem (l.foldl joinS acc) x ↔ Mem acc x ∨ Mem l x := by
  intro l
  induction l with
  | nil => intro acc h _ _ _; exact ⟨h, fun x => by simp [mem_nil]⟩
  | cons s l ih =>
    intro acc h hn hp hl
    obtain ⟨p1, p2⟩ := List.pairwise_cons.1 hp
    obtain ⟨a1, a2, a3⟩ := joinS_ok h (hn s (by simp)) (fun t ht => hl t ht s (by simp))
    obtain ⟨b1, b2⟩ := ih a1 (fun t ht => hn t (by simp [ht])) p2 (fun t ht u hu => by
      have := a3 t ht
      have := p1 u hu
      omega)
    refine ⟨b1, fun x => ?_⟩
    rw [List.foldl_cons, b2, a2, mem_cons, or_assoc]
/-- the canonical list of any spans -/
theorem joinL_mem {l : List (Int × Int)} (hn : ∀ s ∈ l, s.1 < s.2) (hp : l.Pairwise (fun a b => a.1 ≤ b.1)) : Can (joinL l) ∧ ∀ x, Mem (joinL l) x ↔ Mem l x := by
  obtain ⟨h1, h2⟩ := joinL_ok Can.nil hn hp (fun t ht => by cases ht)
  exact ⟨h1, fun x => by rw [joinL, h2]; simp [mem_nil]⟩
end
section
theorem mem_idx {l : List Sp} {x : Int} : Mem l x ↔ ∃ j, j < l.length ∧ fr l j ≤ x ∧ x < tt l j := by
  constructor
  · rintro ⟨s, hs, h⟩
    obtain ⟨j, hj, rfl⟩ := List.getElem_of_mem hs
    rw [list_fr l hj] at h
    exact ⟨j, hj, h⟩
  · rintro ⟨j, hj, h⟩
    refine ⟨l[j], List.getElem_mem hj, ?_⟩
    rw [list_fr l hj]
    exact h
theorem Can.ne' {l : List Sp} (h : Can l) {j : Nat} (hj : j < l.length) : fr l j < tt l j := by
  have := h.ne l[j] (List.getElem_mem hj)
  rw [list_fr l hj] at this
  exact this
theorem Can.lt {l : List Sp} (h : Can l) {j k : Nat} (hjk : j < k) (hk : k < l.length) : tt l j < fr l k := by
  have := List.pairwise_iff_getElem.1 h.pw j k (by omega) hk hjk
  rw [list_fr l (show j < l.length by omega), list_fr l hk] at this
  exact this
theorem Can.mk' {l : List Sp} (h1 : ∀ j, j < l.length → fr l j < tt l j) (h2 : ∀ j, j + 1 < l.length → tt l j < fr l (j + 1)) : Can l := by
  have h3 : ∀ k j, j < k → k < l.length → tt l j < fr l k := by
    intro k
    induction k with
    | zero => intro j h; omega
    | succ k ih =>
      intro j hj hk
      by_cases e : j = k
      · subst e; exact h2 j hk
      · have := ih j (by omega) (by omega)
        have := h1 k (by omega)
        have := h2 k hk
        omega
  refine ⟨fun s hs => ?_, List.pairwise_iff_getElem.2 fun i j hi hj hij => ?_⟩
  · obtain ⟨j, hj, rfl⟩ := List.getElem_of_mem hs
    rw [list_fr l hj]
    exact h1 j hj
  · rw [list_fr l hi, list_fr l hj]
    exact h3 j i hij hj

/-! the ends: 2k is where span k begins, 2k + 1 where it ends -/
def endL (l : List Sp) (n : Nat) : Int := if n % 2 = 0 then fr l (n / 2) else tt l (n / 2)
theorem endL_even (l : List Sp) (k : Nat) : endL l (2 * k) = fr l k := by unfold endL; rw [if_pos (by omega)]; congr 1; omega
theorem endL_odd (l : List Sp) (k : Nat) : endL l (2 * k + 1) = tt l k := by unfold endL; rw [if_neg (by omega)]; congr 1; omega
theorem endL_up {l : List Sp} (h : Can l) {n : Nat} (hn : n + 1 < 2 * l.length) : endL l n < endL l (n + 1) := by
  rcases Nat.mod_two_eq_zero_or_one n with h0 | h0
  · obtain ⟨k, rfl⟩ : ∃ k, n = 2 * k := ⟨n / 2, by omega⟩
    rw [endL_even, endL_odd]
    exact h.ne' (by omega)
  · obtain ⟨k, rfl⟩ : ∃ k, n = 2 * k + 1 := ⟨n / 2, by omega⟩
    rw [endL_odd, show 2 * k + 1 + 1 = 2 * (k + 1) by omega, endL_even]
    exact h.lt (by omega) (by omega)
theorem endL_mono {l : List Sp} (h : Can l) : ∀ {m n : Nat}, m < n → n < 2 * l.length → endL l m < endL l n := by
  intro m n
  induction n with
  | zero => intro h; omega
  | succ n ih =>
    intro hm hn
    have h1 := endL_up h hn
    by_cases e : m = n
    · subst e; exact h1
    · have := ih (by omega) (by omega); omega
/-- behind n ends, ahead of the next one -/
theorem endL_mem {l : List Sp} (h : Can l) {n : Nat} {x : Int} (hn : n ≤ 2 * l.length) (h1 : n = 0 ∨ endL l (n - 1) ≤ x) (h2 : n = 2 * l.length ∨ x < endL l n) : Mem l x ↔ n % 2 = 1 := by
  rw [mem_idx]
  rcases Nat.mod_two_eq_zero_or_one n with h0 | h0
  · refine ⟨fun ⟨j, hj, a, b⟩ => ?_, fun e => by omega⟩
    exfalso
    obtain ⟨k, rfl⟩ : ∃ k, n = 2 * k := ⟨n / 2, by omega⟩
    rcases Nat.lt_or_ge j k with hjk | hjk
    · have e1 : endL l (2 * k - 1) = tt l (k - 1) := by rw [show 2 * k - 1 = 2 * (k - 1) + 1 by omega, endL_odd]
      rw [e1] at h1
      by_cases e : j = k - 1
      · subst e; omega
      · have := h.lt (show j < k - 1 by omega) (by omega)
        have := h.ne' (show k - 1 < l.length by omega)
        omega
    · rw [endL_even] at h2
      by_cases e : j = k
      · subst e; omega
      · have := h.lt (show k < j by omega) hj
        have := h.ne' (show k < l.length by omega)
        omega
  · refine ⟨fun _ => h0, fun _ => ?_⟩
    obtain ⟨k, rfl⟩ : ∃ k, n = 2 * k + 1 := ⟨n / 2, by omega⟩
    refine ⟨k, by omega, ?_, ?_⟩
    · rw [show 2 * k + 1 - 1 = 2 * k by omega, endL_even] at h1; omega
    · rw [endL_odd] at h2; omega

/-! a list cut out by a rule, at ascending cuts -/
def cutL (f : Int → Bool) (c : Nat → Int) : Nat → List Sp
  | 0 => []
  | i + 1 => if f (c i) = true ∧ c i < c (i + 1) then addS (cutL f c i) (c i, c (i + 1)) else cutL f c i
theorem cutL_ok {f : Int → Bool} {c : Nat → Int} : ∀ {n : Nat}, (∀ i, i < n → c i ≤ c (i + 1)) → (∀ i, i < n → ∀ x, c i ≤ x → x < c (i + 1) → f x = f (c i)) →
    Can (cutL f c n) ∧ (∀ t ∈ cutL f c n, t.2 ≤ c n) ∧ ∀ x, Mem (cutL f c n) x ↔ c 0 ≤ x ∧ x < c n ∧ f x = true := by
  intro n
  induction n with
  | zero => intro _ _; exact ⟨Can.nil, (fun t ht => (by cases ht)), fun x => ⟨fun h => absurd h (mem_nil x), fun ⟨h1, h2, _⟩ => by omega⟩⟩
  | succ n ih =>
    intro h1 h2
    obtain ⟨a1, a2, a3⟩ := ih (fun i hi => h1 i (by omega)) (fun i hi => h2 i (by omega))
    have h0 : ∀ k, k ≤ n → c 0 ≤ c k := by
      intro k
      induction k with
      | zero => intro _; exact Int.le_refl _
      | succ k ihk => intro hk; have := ihk (by omega); have := h1 k (by omega); omega
    have hc := h0 n (Nat.le_refl _)
    have hn := h1 n (by omega)
    unfold cutL
    by_cases h : f (c n) = true ∧ c n < c (n + 1)
    · rw [if_pos h]
      obtain ⟨b1, b2, b3⟩ := addS_ok (s := (c n, c (n + 1))) a1 h.2 a2
      refine ⟨b1, b3, fun x => ?_⟩
      rw [b2, a3]
      simp only []
      constructor
      · rintro (⟨h3, h4, h5⟩ | ⟨h3, h4⟩)
        · exact ⟨h3, by omega, h5⟩
        · exact ⟨by omega, h4, by rw [h2 n (by omega) x h3 h4]; exact h.1⟩
      · rintro ⟨h3, h4, h5⟩
        by_cases hx : x < c n
        · exact .inl ⟨h3, hx, h5⟩
        · exact .inr ⟨by omega, h4⟩
    · rw [if_neg h]
      refine ⟨a1, fun t ht => by have := a2 t ht; omega, fun x => ?_⟩
      rw [a3]
      constructor
      · rintro ⟨h3, h4, h5⟩
        exact ⟨h3, by omega, h5⟩
      · rintro ⟨h3, h4, h5⟩
        refine ⟨h3, ?_, h5⟩
        rcases Int.lt_or_le x (c n) with hx | hx
        · exact hx
        · exfalso
          rw [h2 n (by omega) x hx h4] at h5
          exact h ⟨h5, by omega⟩
end
section
/-- a set of period P, by its list in [0, P) -/
def PS (P : Int) (l : List Sp) (x : Int) : Prop := Mem l (x % P)
def InvQ (P : Int) (l : List Sp) (q : Int) : Prop := ∀ x, PS P l (x + q) ↔ PS P l x
def Chg (P : Int) (l : List Sp) (c : Int) : Prop := ¬ (PS P l (c - 1) ↔ PS P l c)
theorem PS_per {P : Int} {l : List Sp} (x t : Int) : PS P l (x + P * t) ↔ PS P l x := by unfold PS; rw [Int.add_mul_emod_self_left]
theorem Chg_per {P : Int} {l : List Sp} (c t : Int) : Chg P l (c + P * t) ↔ Chg P l c := by
  unfold Chg
  have e : c + P * t - 1 = c - 1 + P * t := by omega
  rw [e, PS_per, PS_per]
theorem InvQ.chg {P : Int} {l : List Sp} {q : Int} (h : InvQ P l q) (c : Int) : Chg P l (c + q) ↔ Chg P l c := by
  unfold Chg
  have e : c + q - 1 = c - 1 + q := by omega
  rw [e, h, h]
theorem InvQ.mul {P : Int} {l : List Sp} {q : Int} (h : InvQ P l q) : ∀ t : Nat, InvQ P l (q * t) := by
  intro t
  induction t with
  | zero => intro x; simp
  | succ t ih =>
    intro x
    have e : x + q * ((t + 1 : Nat) : Int) = x + q * t + q := by rw [Int.natCast_add, Int.mul_add]; omega
    rw [e, h, ih]
theorem InvQ.self (P : Int) (l : List Sp) : InvQ P l P := fun x => by
  have := PS_per (P := P) (l := l) x 1
  rwa [Int.mul_one] at this

/-! the changes of a period, in order, go on for ever -/
structure ChL (P : Int) (l : List Sp) (C : List Int) : Prop where
  p1 : 1 ≤ P
  n0 : 0 < C.length
  up : C.Pairwise (· < ·)
  mem : ∀ c, c ∈ C ↔ 0 ≤ c ∧ c < P ∧ Chg P l c
def seqE (P : Int) (C : List Int) (i : Int) : Int := C.getD (i % (C.length : Int)).toNat 0 + P * (i / (C.length : Int))
section
variable {P : Int} {l : List Sp} {C : List Int}
theorem ChL.at (h : ChL P l C) {j : Nat} (hj : j < C.length) : 0 ≤ C.getD j 0 ∧ C.getD j 0 < P ∧ Chg P l (C.getD j 0) := by
  have : C.getD j 0 = C[j] := by simp [List.getD_eq_getElem?_getD, hj]
  rw [this]
  exact (h.mem _).1 (List.getElem_mem hj)
theorem ChL.lt (h : ChL P l C) {j k : Nat} (hjk : j < k) (hk : k < C.length) : C.getD j 0 < C.getD k 0 := by
  have e1 : C.getD j 0 = C[j] := by simp [List.getD_eq_getElem?_getD, show j < C.length by omega]
  have e2 : C.getD k 0 = C[k] := by simp [List.getD_eq_getElem?_getD, hk]
  rw [e1, e2]
  exact List.pairwise_iff_getElem.1 h.up j k (by omega) hk hjk
theorem seqE_mk (P : Int) {C : List Int} (t : Int) {j : Nat} (hj : j < C.length) : seqE P C ((C.length : Int) * t + j) = C.getD j 0 + P * t := by
  have e1 : ((C.length : Int) * t + (j : Int)) % (C.length : Int) = j := by
    rw [Int.add_comm, Int.add_mul_emod_self_left, Int.emod_eq_of_lt (by omega) (by omega)]
  have e2 : ((C.length : Int) * t + (j : Int)) / (C.length : Int) = t := by
    rw [Int.add_comm, Int.add_mul_ediv_left _ _ (by omega), Int.ediv_eq_zero_of_lt (by omega) (by omega)]; omega
  unfold seqE
  rw [e1, e2, Int.toNat_natCast]
theorem idx_parts (i : Int) {n : Nat} (h : 0 < n) : ∃ (t : Int) (j : Nat), j < n ∧ i = (n : Int) * t + j := by
  have h1 := Int.emod_nonneg i (show (n : Int) ≠ 0 by omega)
  have h2 := Int.emod_lt_of_pos i (show (0 : Int) < n by omega)
  have h3 := Int.emod_add_mul_ediv i (n : Int)
  exact ⟨i / (n : Int), (i % (n : Int)).toNat, by omega, by omega⟩
theorem seqE_add (P : Int) {C : List Int} (h0 : 0 < C.length) (i t : Int) : seqE P C (i + (C.length : Int) * t) = seqE P C i + P * t := by
  obtain ⟨s, j, hj, rfl⟩ := idx_parts i h0
  have e : (C.length : Int) * s + (j : Int) + (C.length : Int) * t = (C.length : Int) * (s + t) + j := by rw [Int.mul_add]; omega
  rw [e, seqE_mk P _ hj, seqE_mk P _ hj, Int.mul_add]
  omega
theorem ChL.step (h : ChL P l C) (i : Int) : seqE P C i < seqE P C (i + 1) := by
  obtain ⟨t, j, hj, rfl⟩ := idx_parts i h.n0
  rw [seqE_mk P _ hj]
  by_cases e : j + 1 < C.length
  · have e1 : (C.length : Int) * t + (j : Int) + 1 = (C.length : Int) * t + ((j + 1 : Nat) : Int) := by omega
    rw [e1, seqE_mk P _ e]
    have := h.lt (show j < j + 1 by omega) e
    omega
  · have e1 : (C.length : Int) * t + (j : Int) + 1 = (C.length : Int) * (t + 1) + ((0 : Nat) : Int) := by rw [Int.mul_add]; omega
    rw [e1, seqE_mk P _ h.n0, Int.mul_add]
    have := h.at hj
    have := h.at h.n0
    omega
theorem ChL.mono (h : ChL P l C) (i : Int) : ∀ n : Nat, 0 < n → seqE P C i < seqE P C (i + n) := by
  intro n
  induction n with
  | zero => intro h; omega
  | succ n ih =>
    intro _
    have e : i + ((n + 1 : Nat) : Int) = i + n + 1 := by omega
    have := h.step (i + n)
    rw [e]
    rcases Nat.eq_zero_or_pos n with h0 | h0
    · subst h0; simpa using this
    · have := ih h0; omega
theorem ChL.mono' (h : ChL P l C) {i j : Int} (hij : i < j) : seqE P C i < seqE P C j := by
  have := h.mono i (j - i).toNat (by omega)
  rwa [show i + (((j - i).toNat : Nat) : Int) = j by omega] at this
theorem ChL.lt_iff (h : ChL P l C) {i j : Int} : seqE P C i < seqE P C j ↔ i < j := by
  refine ⟨fun h1 => ?_, h.mono'⟩
  rcases Int.lt_trichotomy i j with h2 | h2 | h2
  · exact h2
  · subst h2; omega
  · have := h.mono' h2; omega
theorem ChL.inj (h : ChL P l C) {i j : Int} (e : seqE P C i = seqE P C j) : i = j := by
  rcases Int.lt_trichotomy i j with h2 | h2 | h2
  · have := h.mono' h2; omega
  · exact h2
  · have := h.mono' h2; omega
theorem ChL.chg (h : ChL P l C) (i : Int) : Chg P l (seqE P C i) := by
  obtain ⟨t, j, hj, rfl⟩ := idx_parts i h.n0
  rw [seqE_mk P _ hj, Chg_per]
  exact (h.at hj).2.2
theorem ChL.surj (h : ChL P l C) {c : Int} (hc : Chg P l c) : ∃ i, seqE P C i = c := by
  have p1 := h.p1
  have h1 := Int.emod_nonneg c (show P ≠ 0 by omega)
  have h2 := Int.emod_lt_of_pos c (show 0 < P by omega)
  have h3 := Int.emod_add_mul_ediv c P
  have h4 : Chg P l (c % P) := by
    have := Chg_per (P := P) (l := l) (c % P) (c / P)
    rw [h3] at this
    exact this.1 hc
  obtain ⟨j, hj, e⟩ := List.getElem_of_mem ((h.mem _).2 ⟨h1, h2, h4⟩)
  refine ⟨(C.length : Int) * (c / P) + j, ?_⟩
  rw [seqE_mk P _ hj]
  have : C.getD j 0 = C[j] := by simp [List.getD_eq_getElem?_getD, hj]
  rw [this, e]
  omega
/-- between two changes -/
theorem ChL.flat (h : ChL P l C) (i : Int) : ∀ n : Nat, seqE P C i + n < seqE P C (i + 1) → (PS P l (seqE P C i + n) ↔ PS P l (seqE P C i)) := by
  intro n
  induction n with
  | zero => intro _; simp
  | succ n ih =>
    intro hn
    have h1 := ih (by omega)
    have h2 : ¬ Chg P l (seqE P C i + ((n + 1 : Nat) : Int)) := fun hc => by
      obtain ⟨j, hj⟩ := h.surj hc
      have a := (h.lt_iff (i := i) (j := j)).1 (by omega)
      have b := (h.lt_iff (i := j) (j := i + 1)).1 (by omega)
      omega
    unfold Chg at h2
    have e : seqE P C i + ((n + 1 : Nat) : Int) - 1 = seqE P C i + n := by omega
    rw [e] at h2
    exact (Classical.not_not.1 h2).symm.trans h1
theorem ChL.flat' (h : ChL P l C) {i x : Int} (h1 : seqE P C i ≤ x) (h2 : x < seqE P C (i + 1)) : PS P l x ↔ PS P l (seqE P C i) := by
  have := h.flat i (x - seqE P C i).toNat (by omega)
  rwa [show seqE P C i + (((x - seqE P C i).toNat : Nat) : Int) = x by omega] at this
theorem ChL.alt (h : ChL P l C) (i : Int) : PS P l (seqE P C (i + 1)) ↔ ¬ PS P l (seqE P C i) := by
  have h1 := h.step i
  have h2 := h.flat' (i := i) (x := seqE P C (i + 1) - 1) (by omega) (by omega)
  have h3 := h.chg (i + 1)
  unfold Chg at h3
  rw [h2] at h3
  by_cases a : PS P l (seqE P C i) <;> by_cases b : PS P l (seqE P C (i + 1)) <;> simp [a, b] at h3 ⊢
theorem ChL.alts (h : ChL P l C) (i : Int) : ∀ n : Nat, (PS P l (seqE P C (i + n)) ↔ PS P l (seqE P C i)) ↔ n % 2 = 0 := by
  intro n
  induction n with
  | zero => simp
  | succ n ih =>
    have e : i + ((n + 1 : Nat) : Int) = i + n + 1 := by omega
    have h1 := h.alt (i + n)
    rw [e, h1]
    have h3 : (n + 1) % 2 = 0 ↔ ¬ n % 2 = 0 := by omega
    rw [h3, ← ih]
    by_cases a : PS P l (seqE P C (i + n)) <;> by_cases b : PS P l (seqE P C i) <;> simp [a, b]
theorem ChL.find (h : ChL P l C) (x : Int) : ∃ i, seqE P C i ≤ x ∧ x < seqE P C (i + 1) := by
  have p1 := h.p1
  obtain ⟨t, ht1, ht2⟩ : ∃ t : Int, C.getD 0 0 + P * t ≤ x ∧ x < C.getD 0 0 + P * t + P := by
    have h1 := Int.emod_nonneg (x - C.getD 0 0) (show P ≠ 0 by omega)
    have h2 := Int.emod_lt_of_pos (x - C.getD 0 0) (show 0 < P by omega)
    have h3 := Int.emod_add_mul_ediv (x - C.getD 0 0) P
    exact ⟨(x - C.getD 0 0) / P, by omega, by omega⟩
  have e0 := seqE_mk P (C := C) t h.n0
  rw [Int.natCast_zero, Int.add_zero] at e0
  have eN := seqE_add P h.n0 ((C.length : Int) * t) 1
  rw [Int.mul_one, Int.mul_one, e0] at eN
  have key : ∀ n : Nat, x < seqE P C ((C.length : Int) * t + n) → ∃ i, seqE P C i ≤ x ∧ x < seqE P C (i + 1) := by
    intro n
    induction n with
    | zero => intro hx; rw [Int.natCast_zero, Int.add_zero, e0] at hx; omega
    | succ n ih =>
      intro hx
      rcases Int.lt_or_le x (seqE P C ((C.length : Int) * t + n)) with h1 | h1
      · exact ih h1
      · exact ⟨_, h1, by rw [show (C.length : Int) * t + (n : Int) + 1 = (C.length : Int) * t + ((n + 1 : Nat) : Int) by omega]; exact hx⟩
  exact key C.length (by rw [eN]; exact ht2)

/-! what the program asks of the changes -/
def wrapP (P y : Int) : Int := if P ≤ y then y - P else y
theorem ChL.inv_of (h : ChL P l C) {q : Int} {k : Nat} (hq1 : 1 ≤ q) (hq2 : q ≤ P) (hk : (C.length : Int) * q = (k : Int) * P) (he : k % 2 = 0) (hc : ∀ i, i < C.length → C.getD ((i + k) % C.length) 0 = wrapP P (C.getD i 0 + q)) : InvQ P l q := by
  have p1 := h.p1
  have n0 := h.n0
  have hkN : k ≤ C.length := by
    rcases Nat.lt_or_ge C.length k with h1 | h1
    · exfalso
      have a1 : ((C.length : Int) + 1) * P ≤ (k : Int) * P := Int.mul_le_mul_of_nonneg_right (by omega) (by omega)
      have a2 : (C.length : Int) * q ≤ (C.length : Int) * P := Int.mul_le_mul_of_nonneg_left hq2 (by omega)
      rw [Int.add_mul] at a1
      omega
    · exact h1
  have hk1 : 1 ≤ k := by
    rcases Nat.eq_zero_or_pos k with h1 | h1
    · exfalso
      subst h1
      have : (1 : Int) * 1 ≤ (C.length : Int) * q := Int.mul_le_mul (by omega) hq1 (by omega) (by omega)
      omega
    · exact h1
  have hs : ∀ i : Int, seqE P C (i + k) = seqE P C i + q := by
    intro i
    obtain ⟨t, j, hj, rfl⟩ := idx_parts i n0
    have h1 := seqE_mk P t hj
    have h2 := Nat.div_add_mod (j + k) C.length
    have hm := Nat.mod_lt (j + k) n0
    have e : (C.length : Int) * t + (j : Int) + (k : Int) = (C.length : Int) * (t + (((j + k) / C.length : Nat) : Int)) + (((j + k) % C.length : Nat) : Int) := by
      have : ((C.length * ((j + k) / C.length) : Nat) : Int) + (((j + k) % C.length : Nat) : Int) = ((j + k : Nat) : Int) := by rw [← Int.natCast_add, h2]
      rw [Int.natCast_mul] at this
      rw [Int.mul_add]
      omega
    have h3 := seqE_mk P (t + (((j + k) / C.length : Nat) : Int)) hm
    rw [← e] at h3
    have h4 := hc j hj
    have a := h.mono ((C.length : Int) * t + j) k (by omega)
    have b : seqE P C ((C.length : Int) * t + (j : Int) + (k : Int)) ≤ seqE P C ((C.length : Int) * t + j) + P := by
      have b1 := seqE_add P n0 ((C.length : Int) * t + j) 1
      rw [Int.mul_one, Int.mul_one] at b1
      rcases Nat.lt_or_ge k C.length with b2 | b2
      · have := h.mono' (i := (C.length : Int) * t + j + k) (j := (C.length : Int) * t + j + C.length) (by omega)
        omega
      · have : k = C.length := by omega
        rw [this, b1]; exact Int.le_refl _
    obtain ⟨z, hz⟩ : ∃ z : Int, P * (t + (((j + k) / C.length : Nat) : Int)) = P * z := ⟨_, rfl⟩
    rw [h3, h1, hz] at a b
    rw [h3, h1, hz, h4]
    rw [h4] at a b
    have hz2 : P * z = P * t + P * (z - t) := by rw [Int.mul_sub]; omega
    obtain ⟨d, hd⟩ : ∃ d, z - t = d := ⟨_, rfl⟩
    rw [hd] at hz2
    unfold wrapP at a b ⊢
    rcases Int.lt_trichotomy d 0 with d0 | d0 | d0
    · have : P * d ≤ P * (-1) := Int.mul_le_mul_of_nonneg_left (by omega) (by omega)
      split at a <;> rename_i hw
      · omega
      · have := h.at hj
        omega
    · subst d0
      rw [Int.mul_zero] at hz2
      split at a <;> rename_i hw
      · have := h.at hj
        omega
      · rw [if_neg hw]; omega
    · by_cases d1 : d = 1
      · subst d1
        rw [Int.mul_one] at hz2
        split at a <;> rename_i hw
        · rw [if_pos hw]; omega
        · rw [if_neg hw] at b; omega
      · have : P * 2 ≤ P * d := Int.mul_le_mul_of_nonneg_left (by omega) (by omega)
        split at b <;> rename_i hw
        · have := h.at hj; omega
        · omega
  intro x
  obtain ⟨i, h1, h2⟩ := h.find x
  have e1 := hs i
  have e2 := hs (i + 1)
  have e3 : i + 1 + (k : Int) = i + k + 1 := by omega
  rw [e3] at e2
  rw [h.flat' h1 h2, h.flat' (i := i + k) (x := x + q) (by omega) (by omega)]
  exact (h.alts i k).2 he
theorem ChL.of_inv (h : ChL P l C) {q : Int} {T : Nat} (hq1 : 1 ≤ q) (hT : q * (T : Int) = P) (hi : InvQ P l q) : ∃ k : Nat, 1 ≤ k ∧ C.length = k * T ∧ (C.length : Int) * q = (k : Int) * P ∧ k % 2 = 0 ∧ ∀ i, i < C.length → C.getD ((i + k) % C.length) 0 = wrapP P (C.getD i 0 + q) := by
  have p1 := h.p1
  have n0 := h.n0
  obtain ⟨r, hr⟩ := h.surj ((hi.chg (seqE P C 0)).2 (h.chg 0))
  have hr1 : 0 < r := h.lt_iff.1 (by omega)
  obtain ⟨k, rfl⟩ : ∃ k : Nat, r = k := ⟨r.toNat, by omega⟩
  have hs : ∀ n : Nat, seqE P C ((k : Int) + n) = seqE P C n + q := by
    intro n
    induction n with
    | zero => simpa using hr
    | succ n ih =>
      have e1 : (k : Int) + ((n + 1 : Nat) : Int) = k + n + 1 := by omega
      have e2 : ((n + 1 : Nat) : Int) = n + 1 := by omega
      have s1 := h.step ((k : Int) + n)
      have s2 := h.step (n : Int)
      rw [e1, e2]
      obtain ⟨j, hj⟩ := h.surj ((hi.chg (seqE P C ((n : Int) + 1))).2 (h.chg _))
      obtain ⟨m, hm⟩ := h.surj (c := seqE P C ((k : Int) + n + 1) - q) ((hi.chg _).1 (by rw [Int.sub_add_cancel]; exact h.chg _))
      have a : (k : Int) + n < j := h.lt_iff.1 (by omega)
      have b : (n : Int) < m := h.lt_iff.1 (by omega)
      have c1 : seqE P C ((k : Int) + n + 1) ≤ seqE P C j := by
        by_cases e : (k : Int) + n + 1 = j
        · rw [e]; exact Int.le_refl _
        · have := h.mono' (i := (k : Int) + n + 1) (j := j) (by omega); omega
      have c2 : seqE P C ((n : Int) + 1) ≤ seqE P C m := by
        by_cases e : (n : Int) + 1 = m
        · rw [e]; exact Int.le_refl _
        · have := h.mono' (i := (n : Int) + 1) (j := m) (by omega); omega
      omega
  have ht : ∀ t : Nat, seqE P C ((t * k : Nat) : Int) = seqE P C 0 + q * t := by
    intro t
    induction t with
    | zero => simp
    | succ t ih =>
      have e : (((t + 1) * k : Nat) : Int) = (k : Int) + ((t * k : Nat) : Int) := by rw [Nat.add_mul]; omega
      rw [e, hs, ih, Int.natCast_add, Int.mul_add]
      omega
  have hN : C.length = k * T := by
    have h1 := ht T
    have h2 := seqE_add P n0 0 1
    rw [Int.mul_one, Int.mul_one, Int.zero_add] at h2
    rw [hT] at h1
    have := h.inj (h1.trans h2.symm)
    rw [Nat.mul_comm]
    omega
  have hNk : (C.length : Int) * q = (k : Int) * P := by
    rw [hN, ← hT, Int.natCast_mul, Int.mul_assoc, Int.mul_comm (T : Int)]
  refine ⟨k, by omega, hN, hNk, ?_, fun i hi' => ?_⟩
  · refine (h.alts 0 k).1 ?_
    rw [Int.zero_add, hr]
    exact hi _
  · have h1 := hs i
    have h2 := Nat.div_add_mod (i + k) C.length
    have hm := Nat.mod_lt (i + k) n0
    have e : (k : Int) + (i : Int) = (C.length : Int) * (((i + k) / C.length : Nat) : Int) + (((i + k) % C.length : Nat) : Int) := by
      have : ((C.length * ((i + k) / C.length) : Nat) : Int) + (((i + k) % C.length : Nat) : Int) = ((i + k : Nat) : Int) := by rw [← Int.natCast_add, h2]
      rw [Int.natCast_mul] at this
      omega
    have h3 := seqE_mk P (((i + k) / C.length : Nat) : Int) hm
    have h4 := seqE_mk P (C := C) 0 hi'
    rw [Int.mul_zero, Int.mul_zero, Int.zero_add, Int.add_zero] at h4
    rw [e, h3, h4] at h1
    have a := h.at hm
    have b := h.at hi'
    have hq2 : q ≤ P := by
      have : q * 1 ≤ q * (T : Int) := Int.mul_le_mul_of_nonneg_left (by
        rcases Nat.eq_zero_or_pos T with t0 | t0
        · subst t0; rw [Int.natCast_zero, Int.mul_zero] at hT; omega
        · omega) (by omega)
      omega
    unfold wrapP
    obtain ⟨z, hz⟩ : ∃ z : Int, (((i + k) / C.length : Nat) : Int) = z := ⟨_, rfl⟩
    rw [hz] at h1
    rcases Int.lt_trichotomy z 0 with d0 | d0 | d0
    · have : P * z ≤ P * (-1) := Int.mul_le_mul_of_nonneg_left (by omega) (by omega)
      omega
    · subst d0
      rw [Int.mul_zero] at h1
      rw [if_neg (by omega)]; omega
    · by_cases d1 : z = 1
      · subst d1
        rw [if_pos (by omega)]; omega
      · have : P * 2 ≤ P * z := Int.mul_le_mul_of_nonneg_left (by omega) (by omega)
        omega
end
end
section
/-- a canonical list from 0 to a period -/
structure Std (P : Int) (l : List Sp) : Prop where
  p1 : 1 ≤ P
  can : Can l
  bd : ∀ s ∈ l, 0 ≤ s.1 ∧ s.2 ≤ P
/-- the least period -/
structure Best (P : Int) (l : List Sp) (d : Int) : Prop where
  d1 : 1 ≤ d
  dvd : d ∣ P
  inv : InvQ P l d
  le : ∀ q, 1 ≤ q → q ∣ P → InvQ P l q → d ≤ q
theorem Best.uniq {P : Int} {l : List Sp} {d d' : Int} (h : Best P l d) (h' : Best P l d') : d = d' := Int.le_antisymm (h.le _ h'.d1 h'.dvd h'.inv) (h'.le _ h.d1 h.dvd h.inv)
/-- a valid set -/
structure PV (P : Int) (l : List Sp) : Prop extends Std P l where
  best : Best P l P
def cutTo (b : Int) (l : List Sp) : List Sp := (l.filter fun s => decide (s.1 < b)).map fun s => (s.1, mi s.2 b)
theorem mi_le (a b : Int) : mi a b ≤ a ∧ mi a b ≤ b ∧ (mi a b = a ∨ mi a b = b) := by
  unfold mi; split <;> omega
theorem cutTo_elem {b : Int} {l : List Sp} {t : Sp} (h : t ∈ cutTo b l) : ∃ s ∈ l, s.1 < b ∧ t = (s.1, mi s.2 b) := by
  unfold cutTo at h
  obtain ⟨s, hs, rfl⟩ := List.mem_map.1 h
  obtain ⟨h1, h2⟩ := List.mem_filter.1 hs
  exact ⟨s, h1, by simpa using h2, rfl⟩
theorem cutTo_can {b : Int} {l : List Sp} (h : Can l) : Can (cutTo b l) := by
  refine ⟨fun t ht => ?_, ?_⟩
  · obtain ⟨s, hs, h1, rfl⟩ := cutTo_elem ht
    have := h.ne s hs
    obtain ⟨_, _, h3⟩ := mi_le s.2 b
    show s.1 < mi s.2 b
    omega
  · unfold cutTo
    rw [List.pairwise_map]
    refine (h.pw.filter _).imp fun {s t} hst => ?_
    have := (mi_le s.2 b).1
    show mi s.2 b < t.1
    omega
theorem cutTo_mem {b : Int} {l : List Sp} {x : Int} : Mem (cutTo b l) x ↔ Mem l x ∧ x < b := by
  constructor
  · rintro ⟨t, ht, h1, h2⟩
    obtain ⟨s, hs, h3, rfl⟩ := cutTo_elem ht
    obtain ⟨a, c, _⟩ := mi_le s.2 b
    change s.1 ≤ x at h1
    change x < mi s.2 b at h2
    exact ⟨⟨s, hs, h1, by omega⟩, by omega⟩
  · rintro ⟨⟨s, hs, h1, h2⟩, h3⟩
    refine ⟨(s.1, mi s.2 b), ?_, h1, ?_⟩
    · unfold cutTo
      exact List.mem_map.2 ⟨s, List.mem_filter.2 ⟨hs, by simp; omega⟩, rfl⟩
    · obtain ⟨_, _, h4⟩ := mi_le s.2 b
      show x < mi s.2 b
      omega
theorem cutTo_bd {b : Int} {l : List Sp} (h : ∀ s ∈ l, 0 ≤ s.1) : ∀ s ∈ cutTo b l, 0 ≤ s.1 ∧ s.2 ≤ b := fun t ht => by
  obtain ⟨s, hs, h1, rfl⟩ := cutTo_elem ht
  exact ⟨h s hs, (mi_le s.2 b).2.1⟩
theorem Std.mem {P : Int} {l : List Sp} (h : Std P l) {x : Int} (hx : Mem l x) : 0 ≤ x ∧ x < P := by
  obtain ⟨s, hs, h1, h2⟩ := hx
  have := h.bd s hs
  omega
theorem Std.mem_PS {P : Int} {l : List Sp} (h : Std P l) {x : Int} : Mem l x ↔ 0 ≤ x ∧ x < P ∧ PS P l x := by
  unfold PS
  constructor
  · intro hx
    obtain ⟨h1, h2⟩ := h.mem hx
    exact ⟨h1, h2, by rwa [Int.emod_eq_of_lt h1 h2]⟩
  · rintro ⟨h1, h2, h3⟩
    rwa [Int.emod_eq_of_lt h1 h2] at h3
theorem InvQ.mulZ {P : Int} {l : List Sp} {q : Int} (h : InvQ P l q) (x t : Int) : PS P l (x + q * t) ↔ PS P l x := by
  rcases Int.le_total 0 t with ht | ht
  · obtain ⟨n, rfl⟩ := Int.eq_ofNat_of_zero_le ht
    exact h.mul n x
  · obtain ⟨n, hn⟩ := Int.eq_ofNat_of_zero_le (show 0 ≤ -t by omega)
    have h1 := h.mul n (x + q * t)
    have e : x + q * t + q * (n : Int) = x := by
      have h2 := congrArg (fun z => q * z) hn
      simp only [Int.mul_neg] at h2
      omega
    rw [e] at h1
    exact h1.symm
theorem PS_cut {P : Int} {l : List Sp} {d : Int} (h : Std P l) (hd : 1 ≤ d) (hdv : d ∣ P) (hi : InvQ P l d) (x : Int) : PS d (cutTo d l) x ↔ PS P l x := by
  have h1 := Int.emod_nonneg x (show d ≠ 0 by omega)
  have h2 := Int.emod_lt_of_pos x (show 0 < d by omega)
  have h3 := Int.emod_add_mul_ediv x d
  have h4 : d ≤ P := Int.le_of_dvd (by have := h.p1; omega) hdv
  have h5 := hi.mulZ (x % d) (x / d)
  rw [h3] at h5
  rw [h5]
  unfold PS
  rw [cutTo_mem, Int.emod_eq_of_lt h1 (show x % d < P by omega)]
  exact ⟨fun h => h.1, fun h => ⟨h, h2⟩⟩
theorem norm_PV {P : Int} {l : List Sp} {d : Int} (h : Std P l) (hb : Best P l d) : PV d (cutTo d l) := by
  refine ⟨⟨hb.d1, cutTo_can h.can, cutTo_bd fun s hs => (h.bd s hs).1⟩, ⟨hb.d1, Int.dvd_refl d, InvQ.self _ _, fun q h1 h2 h3 => hb.le q h1 (Int.dvd_trans h2 hb.dvd) fun x => ?_⟩⟩
  rw [← PS_cut h hb.d1 hb.dvd hb.inv, ← PS_cut h hb.d1 hb.dvd hb.inv]
  exact h3 x
theorem norm_PS {P : Int} {l : List Sp} {d : Int} (h : Std P l) (hb : Best P l d) (x : Int) : PS d (cutTo d l) x ↔ PS P l x := PS_cut h hb.d1 hb.dvd hb.inv x

theorem inv_gcd {S : Int → Prop} : ∀ a b : Nat, (∀ x, S (x + (a : Int)) ↔ S x) → (∀ x, S (x + (b : Int)) ↔ S x) → ∀ x, S (x + ((Nat.gcd a b : Nat) : Int)) ↔ S x := by
  intro a b
  induction a, b using Nat.gcd.induction with
  | H0 n => intro _ h; rw [Nat.gcd_zero_left]; exact h
  | H1 m n hm ih =>
    intro h1 h2
    rw [Nat.gcd_rec]
    refine ih (fun x => ?_) h1
    have h3 : ∀ (t : Nat) x, S (x + (m : Int) * t) ↔ S x := by
      intro t
      induction t with
      | zero => intro x; simp
      | succ t iht =>
        intro x
        have e : x + (m : Int) * ((t + 1 : Nat) : Int) = x + (m : Int) * t + m := by rw [Int.natCast_add, Int.mul_add]; omega
        rw [e, h1, iht]
    have e : x + (n : Int) = x + ((n % m : Nat) : Int) + (m : Int) * ((n / m : Nat) : Int) := by
      have := Nat.mod_add_div n m
      have h4 : ((n % m + m * (n / m) : Nat) : Int) = (n : Int) := by rw [this]
      rw [Int.natCast_add, Int.natCast_mul] at h4
      omega
    rw [← h3 (n / m), ← e, h2]
theorem PV.period {P P' : Int} {l : List Sp} (h : PV P l) (hP' : 1 ≤ P') (he : InvQ P l P') : P ∣ P' := by
  obtain ⟨p, rfl⟩ := Int.eq_ofNat_of_zero_le (show 0 ≤ P by have := h.p1; omega)
  obtain ⟨p', rfl⟩ := Int.eq_ofNat_of_zero_le (show 0 ≤ P' by omega)
  have h1 : InvQ (p : Int) l ((Nat.gcd p p' : Nat) : Int) := inv_gcd p p' (InvQ.self _ _) he
  have h2 : Nat.gcd p p' ∣ p := Nat.gcd_dvd_left _ _
  have hp := h.p1
  have h3 : 0 < Nat.gcd p p' := Nat.gcd_pos_of_pos_left _ (by omega)
  have h4 := h.best.le _ (by omega) (Int.natCast_dvd_natCast.2 h2) h1
  have h5 : Nat.gcd p p' ≤ p := Nat.le_of_dvd (by omega) h2
  have h6 : Nat.gcd p p' = p := by omega
  refine Int.natCast_dvd_natCast.2 ?_
  have := Nat.gcd_dvd_right p p'
  rwa [h6] at this
/-- a set has one form -/
theorem PV.uniq {P P' : Int} {l l' : List Sp} (h : PV P l) (h' : PV P' l') (he : ∀ x, PS P l x ↔ PS P' l' x) : P = P' ∧ l = l' := by
  have i1 : InvQ P l P' := fun x => by rw [he, he]; exact InvQ.self _ _ x
  have i2 : InvQ P' l' P := fun x => by rw [← he, ← he]; exact InvQ.self _ _ x
  have d1 := PV.period h h'.p1 i1
  have d2 := PV.period h' h.p1 i2
  have e : P = P' := Int.le_antisymm (Int.le_of_dvd (by have := h'.p1; omega) d1) (Int.le_of_dvd (by have := h.p1; omega) d2)
  subst e
  exact ⟨rfl, can_unique h.can h'.can fun x => by rw [h.mem_PS, h'.mem_PS, he]⟩
end
section
def R2 (rule : Bool → Bool → Bool) (a b : List Sp) (x : Int) : Bool := rule (memB a x) (memB b x)
def oddB (n : Nat) : Bool := n % 2 == 1
theorem oddB_mem {l : List Sp} (h : Can l) {n : Nat} {x : Int} (hn : n ≤ 2 * l.length) (h1 : n = 0 ∨ endL l (n - 1) ≤ x) (h2 : n < 2 * l.length → x < endL l n) : memB l x = oddB n := by
  have := endL_mem h hn h1 (by rcases Nat.lt_or_ge n (2 * l.length) with h | h; exact .inr (h2 h); exact .inl (by omega))
  unfold oddB
  rcases Nat.mod_two_eq_zero_or_one n with e | e
  · rw [e, memB_false.2 (by rw [this]; omega)]; rfl
  · rw [e, memB_iff.2 (this.2 e)]; rfl
structure CombI (rule : Bool → Bool → Bool) (a b : List Sp) (i k : Nat) (out : List Sp) : Prop where
  hi : i ≤ 2 * a.length
  hk : k ≤ 2 * b.length
  st : ∃ c, (i = 0 ∨ endL a (i - 1) ≤ c) ∧ (i < 2 * a.length → c < endL a i) ∧ (k = 0 ∨ endL b (k - 1) ≤ c) ∧ (k < 2 * b.length → c < endL b k) ∧
    (rule (oddB i) (oddB k) = false → Can out ∧ (∀ t ∈ out, t.2 ≤ c) ∧ ∀ x, x ≤ c → (Mem out x ↔ R2 rule a b x = true)) ∧
    (rule (oddB i) (oddB k) = true → ∃ o f, (∀ z, out.getLast? = some z → out = o ++ [(f, z.2)]) ∧ out ≠ [] ∧ Can o ∧ (∀ t ∈ o, t.2 < f) ∧ f ≤ c ∧ ∀ x, x ≤ c → (R2 rule a b x = true ↔ Mem o x ∨ f ≤ x))
/-- the number of ends behind the next cut -/
def nxI (l : List Sp) (n : Nat) (t : Int) : Nat := if n < 2 * l.length ∧ endL l n = t then n + 1 else n
theorem nxI_pre {l : List Sp} (h : Can l) {n : Nat} {c t : Int} (hn : n ≤ 2 * l.length) (h1 : n = 0 ∨ endL l (n - 1) ≤ c) (hct : c < t) (ht : n < 2 * l.length → t ≤ endL l n) :
    nxI l n t ≤ 2 * l.length ∧ (nxI l n t = 0 ∨ endL l (nxI l n t - 1) ≤ t) ∧ (nxI l n t < 2 * l.length → t < endL l (nxI l n t)) := by
  unfold nxI
  split
  · rename_i e
    refine ⟨by omega, .inr (by rw [Nat.add_sub_cancel]; omega), fun h2 => ?_⟩
    have := endL_up h h2
    omega
  · rename_i e
    refine ⟨hn, h1.imp id (by omega), fun h2 => ?_⟩
    have := ht h2
    by_cases e2 : endL l n = t
    · exact absurd ⟨h2, e2⟩ e
    · omega
theorem CombI.init {rule : Bool → Bool → Bool} {a b : List Sp} (h0 : rule false false = false) (ha : Can a) (hb : Can b) : CombI rule a b 0 0 [] := by
  refine ⟨by omega, by omega, mi (endL a 0) (endL b 0) - 1, .inl rfl, fun _ => ?_, .inl rfl, fun _ => ?_, fun _ => ⟨Can.nil, fun t ht => (by cases ht), fun x hx => ?_⟩, fun h => ?_⟩
  · unfold mi; split <;> omega
  · unfold mi; split <;> omega
  · have hx' : x < endL a 0 ∧ x < endL b 0 := by unfold mi at hx; split at hx <;> omega
    have h1 := oddB_mem ha (n := 0) (x := x) (by omega) (.inl rfl) fun _ => hx'.1
    have h2 := oddB_mem hb (n := 0) (x := x) (by omega) (.inl rfl) fun _ => hx'.2
    unfold R2
    rw [h1, h2]
    refine ⟨fun h => absurd h (mem_nil x), fun h => ?_⟩
    rw [show rule (oddB 0) (oddB 0) = false from h0] at h
    cases h
  · rw [show rule (oddB 0) (oddB 0) = false from h0] at h
    cases h
theorem CombI.step {rule : Bool → Bool → Bool} {a b : List Sp} (ha : Can a) (hb : Can b) {i k : Nat} {out : List Sp} (h : CombI rule a b i k out) {t : Int}
    (ht : i < 2 * a.length ∧ t = endL a i ∨ k < 2 * b.length ∧ t = endL b k) (hta : i < 2 * a.length → t ≤ endL a i) (htb : k < 2 * b.length → t ≤ endL b k) :
    ∃ out', CombI rule a b (nxI a i t) (nxI b k t) out' ∧ i + k < nxI a i t + nxI b k t ∧
      out' = (if rule (oddB i) (oddB k) = false ∧ rule (oddB (nxI a i t)) (oddB (nxI b k t)) = true then out ++ [(t, 0)]
        else if rule (oddB i) (oddB k) = true ∧ rule (oddB (nxI a i t)) (oddB (nxI b k t)) = false then out.set (out.length - 1) ((out.getD (out.length - 1) (0, 0)).1, t) else out) ∧
      (rule (oddB i) (oddB k) = true → 0 < out.length) := by
  obtain ⟨hi, hk, c, a1, a2, b1, b2, cF, cT⟩ := h
  have hct : c < t := by rcases ht with ⟨h1, h2⟩ | ⟨h1, h2⟩; have := a2 h1; omega; have := b2 h1; omega
  obtain ⟨p1, p2, p3⟩ := nxI_pre ha hi a1 hct hta
  obtain ⟨q1, q2, q3⟩ := nxI_pre hb hk b1 hct htb
  have hlt : i + k < nxI a i t + nxI b k t := by
    have e1 : i ≤ nxI a i t := by unfold nxI; split <;> omega
    have e2 : k ≤ nxI b k t := by unfold nxI; split <;> omega
    rcases ht with ⟨h1, h2⟩ | ⟨h1, h2⟩
    · have : nxI a i t = i + 1 := if_pos ⟨h1, h2.symm⟩
      omega
    · have : nxI b k t = k + 1 := if_pos ⟨h1, h2.symm⟩
      omega
  have hmid : ∀ x, c ≤ x → x < t → R2 rule a b x = rule (oddB i) (oddB k) := fun x h1 h2 => by
    unfold R2
    rw [oddB_mem ha hi (a1.imp id (by omega)) (fun h => by have := hta h; omega), oddB_mem hb hk (b1.imp id (by omega)) (fun h => by have := htb h; omega)]
  have hat : R2 rule a b t = rule (oddB (nxI a i t)) (oddB (nxI b k t)) := by
    unfold R2
    rw [oddB_mem ha p1 p2 p3, oddB_mem hb q1 q2 q3]
  obtain ⟨i', hi'⟩ : ∃ i', nxI a i t = i' := ⟨_, rfl⟩
  obtain ⟨k', hk'⟩ : ∃ k', nxI b k t = k' := ⟨_, rfl⟩
  rw [hi'] at p1 p2 p3 hlt hat ⊢
  rw [hk'] at q1 q2 q3 hlt hat ⊢
  cases hB : rule (oddB i) (oddB k) with
  | false =>
    obtain ⟨u1, u2, u3⟩ := cF hB
    rw [hB] at hmid
    cases hA : rule (oddB i') (oddB k') with
    | true =>
      rw [hA] at hat
      refine ⟨_, ⟨p1, q1, t, p2, p3, q2, q3, (fun h => by rw [hA] at h; cases h), fun _ => ⟨out, t, fun z hz => ?_, by simp, u1, fun s hs => by have := u2 s hs; omega, Int.le_refl _, fun x hx => ?_⟩⟩, hlt, rfl, fun h => by cases h⟩
      · simp at hz ⊢; rw [← hz]
      · by_cases e : x ≤ c
        · rw [← u3 x e]; exact ⟨.inl, fun h => h.elim id (by omega)⟩
        · by_cases e2 : x < t
          · rw [hmid x (by omega) e2]
            refine ⟨(fun h => by cases h), fun h => ?_⟩
            rcases h with ⟨s, hs, h1, h2⟩ | h
            · have := u2 s hs; omega
            · omega
          · have : x = t := by omega
            subst this
            rw [hat]
            exact ⟨fun _ => .inr (Int.le_refl _), fun _ => rfl⟩
    | false =>
      rw [hA] at hat
      refine ⟨_, ⟨p1, q1, t, p2, p3, q2, q3, fun _ => ⟨u1, fun s hs => by have := u2 s hs; omega, fun x hx => ?_⟩, fun h => by rw [hA] at h; cases h⟩, hlt, by simp, fun h => by cases h⟩
      by_cases e : x ≤ c
      · exact u3 x e
      · have : R2 rule a b x = false := by
          by_cases e2 : x < t
          · exact hmid x (by omega) e2
          · have : x = t := by omega
            subst this; exact hat
        rw [this]
        refine ⟨?_, (fun h => by cases h)⟩
        rintro ⟨s, hs, h1, h2⟩
        have := u2 s hs; omega
  | true =>
    obtain ⟨o, f, v1, v2, v3, v4, v5, v6⟩ := cT hB
    rw [hB] at hmid
    have hl : 0 < out.length := List.length_pos_iff.2 v2
    obtain ⟨z, hz⟩ : ∃ z, out.getLast? = some z := by
      cases hz : out.getLast? with
      | none => rw [List.getLast?_eq_none_iff] at hz; exact absurd hz v2
      | some z => exact ⟨z, rfl⟩
    have ho := v1 z hz
    have hset : out.set (out.length - 1) ((out.getD (out.length - 1) (0, 0)).1, t) = o ++ [(f, t)] := by
      rw [ho]
      simp
    cases hA : rule (oddB i') (oddB k') with
    | false =>
      rw [hA] at hat
      refine ⟨_, ⟨p1, q1, t, p2, p3, q2, q3, fun _ => ?_, fun h => by rw [hA] at h; cases h⟩, hlt, rfl, fun _ => hl⟩
      simp only [Bool.true_eq_false, false_and, if_false, true_and, if_true]
      rw [hset]
      refine ⟨v3.snoc (by show f < t; omega) v4, fun s hs => ?_, fun x hx => ?_⟩
      · rcases List.mem_append.1 hs with hs | hs
        · have := v4 s hs; omega
        · rw [List.mem_singleton.1 hs]; exact Int.le_refl _
      · rw [mem_app, mem_one]
        by_cases e : x ≤ c
        · rw [v6 x e]
          exact ⟨fun h => h.imp id fun h => h.1, fun h => h.imp id fun h => ⟨h, by show x < t; omega⟩⟩
        · by_cases e2 : x < t
          · rw [hmid x (by omega) e2]
            exact ⟨fun _ => rfl, fun _ => .inr ⟨by show f ≤ x; omega, e2⟩⟩
          · have : x = t := by omega
            subst this
            rw [hat]
            refine ⟨fun h => ?_, (fun h => by cases h)⟩
            rcases h with ⟨s, hs, h1, h2⟩ | ⟨_, h⟩
            · have := v4 s hs; omega
            · exact absurd h (Int.lt_irrefl _)
    | true =>
      rw [hA] at hat
      refine ⟨_, ⟨p1, q1, t, p2, p3, q2, q3, (fun h => by rw [hA] at h; cases h), fun _ => ⟨o, f, v1, v2, v3, v4, by omega, fun x hx => ?_⟩⟩, hlt, by simp, fun _ => hl⟩
      by_cases e : x ≤ c
      · exact v6 x e
      · have : R2 rule a b x = true := by
          by_cases e2 : x < t
          · exact hmid x (by omega) e2
          · have : x = t := by omega
            subst this; exact hat
        rw [this]
        exact ⟨fun _ => .inr (by omega), fun _ => rfl⟩
theorem CombI.done {rule : Bool → Bool → Bool} {a b : List Sp} (ha : Can a) (hb : Can b) (h0 : rule false false = false) {out : List Sp} (h : CombI rule a b (2 * a.length) (2 * b.length) out) :
    Can out ∧ ∀ x, Mem out x ↔ R2 rule a b x = true := by
  obtain ⟨hi, hk, c, a1, a2, b1, b2, cF, cT⟩ := h
  have e1 : oddB (2 * a.length) = false := by unfold oddB; rw [show 2 * a.length % 2 = 0 by omega]; rfl
  have e2 : oddB (2 * b.length) = false := by unfold oddB; rw [show 2 * b.length % 2 = 0 by omega]; rfl
  obtain ⟨u1, u2, u3⟩ := cF (by rw [e1, e2]; exact h0)
  refine ⟨u1, fun x => ?_⟩
  by_cases e : x ≤ c
  · exact u3 x e
  · have : R2 rule a b x = false := by
      unfold R2
      rw [oddB_mem ha (Nat.le_refl _) (a1.imp id (by omega)) (by omega), oddB_mem hb (Nat.le_refl _) (b1.imp id (by omega)) (by omega), e1, e2]; exact h0
    rw [this]
    refine ⟨?_, (fun h => by cases h)⟩
    rintro ⟨s, hs, h1, h2⟩
    have := u2 s hs; omega
end
section
/-- x is the remainder of a number of a span -/
def InF (P : Int) (s : Sp) (x : Int) : Prop := ∃ y, s.1 ≤ y ∧ y < s.2 ∧ y % P = x
def foldP (P : Int) (s : Sp) : List Sp := (s.1 % P, mi (s.1 % P + s.2 - s.1) P) :: if P < s.1 % P + s.2 - s.1 then [(0, s.1 % P + s.2 - s.1 - P)] else []
theorem foldP_mem {P : Int} {s : Sp} (hP : 1 ≤ P) (hl : s.2 - s.1 < P) {x : Int} : Mem (foldP P s) x ↔ InF P s x := by
  have h1 := Int.emod_nonneg s.1 (show P ≠ 0 by omega)
  have h2 := Int.emod_lt_of_pos s.1 (show 0 < P by omega)
  have h3 := Int.emod_add_mul_ediv s.1 P
  obtain ⟨r, hr⟩ : ∃ r, s.1 % P = r := ⟨_, rfl⟩
  obtain ⟨q, hq⟩ : ∃ q, s.1 / P = q := ⟨_, rfl⟩
  rw [hr, hq] at h3
  rw [hr] at h1 h2
  have key : InF P s x ↔ 0 ≤ x ∧ x < P ∧ (r ≤ x ∧ x < r + s.2 - s.1 ∨ r ≤ x + P ∧ x + P < r + s.2 - s.1) := by
    unfold InF
    constructor
    · rintro ⟨y, a, b, rfl⟩
      have c1 := Int.emod_nonneg y (show P ≠ 0 by omega)
      have c2 := Int.emod_lt_of_pos y (show 0 < P by omega)
      have c3 := Int.emod_add_mul_ediv y P
      refine ⟨c1, c2, ?_⟩
      obtain ⟨t, ht⟩ : ∃ t, y / P - q = t := ⟨_, rfl⟩
      have c4 : P * (y / P) = P * q + P * t := by rw [← ht, Int.mul_sub]; omega
      rcases Int.lt_trichotomy t 0 with d | d | d
      · have : P * t ≤ P * (-1) := Int.mul_le_mul_of_nonneg_left (by omega) (by omega)
        omega
      · subst d; rw [Int.mul_zero] at c4
        exact .inl (by omega)
      · by_cases e : t = 1
        · subst e; rw [Int.mul_one] at c4
          exact .inr (by omega)
        · have : P * 2 ≤ P * t := Int.mul_le_mul_of_nonneg_left (by omega) (by omega)
          omega
    · rintro ⟨a, b, h | h⟩
      · refine ⟨x + P * q, by omega, by omega, ?_⟩
        rw [Int.add_mul_emod_self_left, Int.emod_eq_of_lt a b]
      · refine ⟨x + P * (q + 1), by rw [Int.mul_add]; omega, by rw [Int.mul_add]; omega, ?_⟩
        rw [Int.add_mul_emod_self_left, Int.emod_eq_of_lt a b]
  rw [key]
  unfold foldP
  rw [hr, mem_cons]
  simp only []
  have hm := mi_le (r + s.2 - s.1) P
  split
  · rw [mem_one]
    constructor
    · rintro (h | ⟨a, b⟩)
      · exact ⟨by omega, by omega, .inl (by omega)⟩
      · change 0 ≤ x at a
        change x < r + s.2 - s.1 - P at b
        exact ⟨a, by omega, .inr (by omega)⟩
    · rintro ⟨a, b, h | h⟩
      · exact .inl (by omega)
      · exact .inr ⟨a, by show x < r + s.2 - s.1 - P; omega⟩
  · constructor
    · rintro (h | h)
      · exact ⟨by omega, by omega, .inl (by omega)⟩
      · exact absurd h (mem_nil x)
    · rintro ⟨a, b, h | h⟩
      · exact .inl (by omega)
      · omega
theorem InF_full {P : Int} {s : Sp} (hP : 1 ≤ P) (hl : P ≤ s.2 - s.1) {x : Int} : InF P s x ↔ 0 ≤ x ∧ x < P := by
  constructor
  · rintro ⟨y, _, _, rfl⟩
    exact ⟨Int.emod_nonneg y (by omega), Int.emod_lt_of_pos y (by omega)⟩
  · rintro ⟨h1, h2⟩
    have a1 := Int.emod_nonneg (x - s.1) (show P ≠ 0 by omega)
    have a2 := Int.emod_lt_of_pos (x - s.1) (show 0 < P by omega)
    have a3 := Int.emod_add_mul_ediv (x - s.1) P
    refine ⟨s.1 + (x - s.1) % P, by omega, by omega, ?_⟩
    have e : s.1 + (x - s.1) % P = x + P * (-((x - s.1) / P)) := by rw [Int.mul_neg]; omega
    rw [e, Int.add_mul_emod_self_left, Int.emod_eq_of_lt h1 h2]
theorem foldP_ne {P : Int} {s : Sp} (hP : 1 ≤ P) (hs : s.1 < s.2) : ∀ t ∈ foldP P s, t.1 < t.2 ∧ 0 ≤ t.1 ∧ t.1 ≤ P := by
  have h1 := Int.emod_nonneg s.1 (show P ≠ 0 by omega)
  have h2 := Int.emod_lt_of_pos s.1 (show 0 < P by omega)
  intro t ht
  unfold foldP at ht
  rcases List.mem_cons.1 ht with rfl | ht
  · have hm := mi_le (s.1 % P + s.2 - s.1) P
    exact ⟨by show s.1 % P < mi _ _; omega, h1, by show s.1 % P ≤ P; omega⟩
  · split at ht
    · rw [List.mem_singleton.1 ht]
      exact ⟨by show (0 : Int) < _ - _; omega, by show (0 : Int) ≤ 0; omega, by show (0 : Int) ≤ P; omega⟩
    · cases ht
/-- a set moved -/
def MemF (P : Int) (l : List Sp) (x : Int) : Prop := ∃ s ∈ l, InF P s x
theorem MemF_mem {P : Int} {l : List Sp} (hP : 1 ≤ P) (hl : ∀ s ∈ l, s.2 - s.1 < P) {x : Int} : Mem (l.flatMap (foldP P)) x ↔ MemF P l x := by
  unfold MemF
  constructor
  · rintro ⟨t, ht, h⟩
    obtain ⟨s, hs, ht⟩ := List.mem_flatMap.1 ht
    exact ⟨s, hs, (foldP_mem hP (hl s hs)).1 ⟨t, ht, h⟩⟩
  · rintro ⟨s, hs, h⟩
    obtain ⟨t, ht, h⟩ := (foldP_mem hP (hl s hs)).2 h
    exact ⟨t, List.mem_flatMap.2 ⟨s, hs, ht⟩, h⟩
/-- every list from 0 to a period, moved by n: the remainders -/
theorem MemF_move {P : Int} {l : List Sp} (h : Std P l) (n : Int) {x : Int} (h1 : 0 ≤ x) (h2 : x < P) : MemF P (l.map fun s => (s.1 + n, s.2 + n)) x ↔ PS P l (x - n) := by
  unfold MemF PS
  constructor
  · rintro ⟨t, ht, y, a, b, e⟩
    obtain ⟨s, hs, rfl⟩ := List.mem_map.1 ht
    change s.1 + n ≤ y at a
    change y < s.2 + n at b
    have := h.bd s hs
    have e2 : (x - n) % P = y - n := by
      have e3 : (x - n) % P = (y - n) % P := by rw [← e, Int.emod_sub_emod]
      rw [e3, Int.emod_eq_of_lt (by omega) (by omega)]
    rw [e2]
    exact ⟨s, hs, by omega, by omega⟩
  · rintro ⟨s, hs, a, b⟩
    refine ⟨_, List.mem_map.2 ⟨s, hs, rfl⟩, (x - n) % P + n, by show s.1 + n ≤ _; omega, by show _ < s.2 + n; omega, ?_⟩
    rw [Int.emod_add_emod, Int.sub_add_cancel, Int.emod_eq_of_lt h1 h2]
end
section
def rk1 (s : Sp) (x : Int) : Int := ma 0 (mi s.2 x - s.1)
def rk : List Sp → Int → Int
  | [], _ => 0
  | s :: l, x => rk1 s x + rk l x
def bI (b : Bool) : Int := if b then 1 else 0
theorem bI_t : bI true = 1 := rfl
theorem bI_f : bI false = 0 := rfl
theorem rk_step {l : List Sp} (h : Can l) (x : Int) : rk l (x + 1) - rk l x = bI (memB l x) := by
  induction l with
  | nil => rfl
  | cons s l ih =>
    have ih := ih h.tail
    have hs := h.ne s (by simp)
    have e : memB (s :: l) x = ((decide (s.1 ≤ x) && decide (x < s.2)) || memB l x) := by simp [memB]
    unfold rk
    rw [e]
    have h1 : rk1 s (x + 1) - rk1 s x = bI (decide (s.1 ≤ x) && decide (x < s.2)) := by
      by_cases a : s.1 ≤ x
      · by_cases b : x < s.2
        · simp only [decide_eq_true a, decide_eq_true b, Bool.and_self, bI_t]
          unfold rk1 ma mi
          repeat' split
          all_goals omega
        · simp only [decide_eq_false b, Bool.and_false, bI_f]
          unfold rk1 ma mi
          repeat' split
          all_goals omega
      · simp only [decide_eq_false a, Bool.false_and, bI_f]
        unfold rk1 ma mi
        repeat' split
        all_goals omega
    have h2 : bI ((decide (s.1 ≤ x) && decide (x < s.2)) || memB l x) = bI (decide (s.1 ≤ x) && decide (x < s.2)) + bI (memB l x) := by
      cases hm : memB l x with
      | false => cases (decide (s.1 ≤ x) && decide (x < s.2)) <;> rfl
      | true =>
        have := h.cons_lt (memB_iff.1 hm)
        have : decide (x < s.2) = false := decide_eq_false (by omega)
        rw [this, Bool.and_false]
        rfl
    rw [h2]
    omega
theorem rk_low {l : List Sp} {x : Int} (h : ∀ s ∈ l, x ≤ s.1) (hn : ∀ s ∈ l, s.1 < s.2) : rk l x = 0 := by
  induction l with
  | nil => rfl
  | cons s l ih =>
    unfold rk
    rw [ih (fun t ht => h t (by simp [ht])) (fun t ht => hn t (by simp [ht]))]
    have := h s (by simp)
    have := hn s (by simp)
    unfold rk1 ma mi
    repeat' split
    all_goals omega
def meas : List Sp → Int
  | [] => 0
  | s :: l => (s.2 - s.1) + meas l
theorem rk_high {l : List Sp} {x : Int} (h : ∀ s ∈ l, s.2 ≤ x) (hn : ∀ s ∈ l, s.1 < s.2) : rk l x = meas l := by
  induction l with
  | nil => rfl
  | cons s l ih =>
    unfold rk meas
    rw [ih (fun t ht => h t (by simp [ht])) (fun t ht => hn t (by simp [ht]))]
    have := h s (by simp)
    have := hn s (by simp)
    unfold rk1 ma mi
    repeat' split
    all_goals omega
/-- two counts with the same steps -/
theorem step_same {F G : Int → Int} {a : Int} : ∀ n : Nat, (∀ x, a ≤ x → x < a + n → F (x + 1) - F x = G (x + 1) - G x) → F (a + n) - F a = G (a + n) - G a := by
  intro n
  induction n with
  | zero => intro _; simp
  | succ n ih =>
    intro h
    have h1 := ih fun x a b => h x a (by omega)
    have h2 := h (a + n) (by omega) (by omega)
    have e : a + ((n + 1 : Nat) : Int) = a + n + 1 := by omega
    rw [e]
    omega
theorem step_eq {F G : Int → Int} {a b : Int} (hab : a ≤ b) (h : ∀ x, a ≤ x → x < b → F (x + 1) - F x = G (x + 1) - G x) : F b - F a = G b - G a := by
  obtain ⟨n, hn⟩ := Int.eq_ofNat_of_zero_le (show 0 ≤ b - a by omega)
  have e : b = a + n := by omega
  subst e
  exact step_same n h
def psB (P : Int) (l : List Sp) (x : Int) : Bool := memB l (x % P)
theorem psB_iff {P : Int} {l : List Sp} {x : Int} : psB P l x = true ↔ PS P l x := memB_iff
/-- the numbers from 0 to x - 1, less those from x to -1 -/
def bel (P : Int) (l : List Sp) (x : Int) : Int := x / P * rk l P + rk l (x % P)
theorem Std.rk0 {P : Int} {l : List Sp} (h : Std P l) : rk l 0 = 0 := rk_low (fun s hs => (h.bd s hs).1) h.can.ne
theorem Std.rkP {P : Int} {l : List Sp} (h : Std P l) : rk l P = meas l := rk_high (fun s hs => (h.bd s hs).2) h.can.ne
theorem bel_step {P : Int} {l : List Sp} (h : Std P l) (x : Int) : bel P l (x + 1) - bel P l x = bI (psB P l x) := by
  have hp := h.p1
  have h1 := Int.emod_nonneg x (show P ≠ 0 by omega)
  have h2 := Int.emod_lt_of_pos x (show 0 < P by omega)
  have h3 := Int.emod_add_mul_ediv x P
  unfold bel psB
  obtain ⟨r, hr⟩ : ∃ r, x % P = r := ⟨_, rfl⟩
  obtain ⟨q, hq⟩ : ∃ q, x / P = q := ⟨_, rfl⟩
  rw [hr, hq] at h3 ⊢
  rw [hr] at h1 h2
  have h4 := rk_step h.can r
  by_cases e : r + 1 < P
  · have e1 : x + 1 = r + 1 + P * q := by omega
    have e2 : (x + 1) % P = r + 1 := by rw [e1, Int.add_mul_emod_self_left, Int.emod_eq_of_lt (by omega) e]
    have e3 : (x + 1) / P = q := by rw [e1, Int.add_mul_ediv_left _ _ (by omega), Int.ediv_eq_zero_of_lt (by omega) e]; omega
    rw [e2, e3]
    omega
  · have e1 : x + 1 = 0 + P * (q + 1) := by rw [Int.mul_add]; omega
    have e2 : (x + 1) % P = 0 := by rw [e1, Int.add_mul_emod_self_left]; simp
    have e3 : (x + 1) / P = q + 1 := by rw [e1, Int.add_mul_ediv_left _ _ (by omega)]; simp
    have e4 : r + 1 = P := by omega
    rw [e4] at h4
    rw [e2, e3, h.rk0, Int.add_mul]
    omega
theorem bel_zero {P : Int} {l : List Sp} (h : Std P l) : bel P l 0 = 0 := by
  unfold bel
  rw [Int.zero_ediv, Int.zero_emod, h.rk0]; omega
theorem bel_period {P : Int} {l : List Sp} (h : Std P l) (x : Int) : bel P l (x + P) = bel P l x + meas l := by
  have hp := h.p1
  unfold bel
  have e1 : (x + P) % P = x % P := by simp
  have e2 : (x + P) / P = x / P + 1 := by rw [Int.add_ediv_of_dvd_right (Int.dvd_refl P), Int.ediv_self (by omega)]
  rw [e1, e2, Int.add_mul, h.rkP]
  omega
theorem meas_bd {P : Int} {l : List Sp} (h : Std P l) : 0 ≤ meas l ∧ meas l ≤ P := by
  have h0 : ∀ n : Nat, 0 ≤ rk l n ∧ rk l n ≤ n := by
    intro n
    induction n with
    | zero => rw [show ((0 : Nat) : Int) = 0 from rfl, h.rk0]; omega
    | succ n ih =>
      have := rk_step h.can (n : Int)
      have e : ((n + 1 : Nat) : Int) = n + 1 := by omega
      rw [e]
      unfold bI at this
      split at this <;> omega
  obtain ⟨n, hn⟩ := Int.eq_ofNat_of_zero_le (show 0 ≤ P by have := h.p1; omega)
  rw [← h.rkP, hn]
  exact h0 n
theorem rk_bd {P : Int} {l : List Sp} (h : Std P l) (x : Int) (h0 : 0 ≤ x) : 0 ≤ rk l x ∧ rk l x ≤ x := by
  obtain ⟨n, rfl⟩ := Int.eq_ofNat_of_zero_le h0
  induction n with
  | zero => rw [show ((0 : Nat) : Int) = 0 from rfl, h.rk0]; omega
  | succ n ih =>
    have := rk_step h.can (n : Int)
    have e : ((n + 1 : Nat) : Int) = n + 1 := by omega
    have := ih (by omega)
    rw [e]
    unfold bI at *
    split at * <;> omega
end
end Go.Proofs.Ytlpbdikmhngmfaa
