/-
  Canonical lists of spans, as sets of integers. No program here.
  Canonical lists of spans: by their ends; lists that are cut out by a rule. No program here.
  Two canonical lists gone through at the same time, by their ends. No program here.
  Sets of pairs, divided by transaction time: canonical lists of rectangles. No program here.
  Rectangles: spans, lists of spans, canonical lists of spans: what the models come to.
  Rectangles: the union of spans, and two canonical lists combined.
  Rectangles: the program's lists of valid times, ends, and its combination of two lists.
  Rectangles: what the program's combination of two lists returns, and what it contains.
  Rectangles: the reference's ascending lists, and its lists of spans.
  Rectangles: the reference's lists of spans.
  Rectangles: the reference's combination of two lists.
  Rectangles: the reference's combination of two lists is the program's.
-/
import Derived.Test.YtkdffpncpikdmaaPure
import Derived.Test.YtkdffpncpikdmaaCalP
import Derived.Test.YtkdffpncpikdmaaRQ
namespace Go.Proofs.Ytkdffpncpikdmaa
open Go.RowKit
section
def Mem (l : List (Int × Int)) (x : Int) : Prop := ∃ s ∈ l, s.1 ≤ x ∧ x < s.2
def memB (l : List (Int × Int)) (x : Int) : Bool := l.any fun s => decide (s.1 ≤ x) && decide (x < s.2)
theorem memB_iff {l : List (Int × Int)} {x : Int} : memB l x = true ↔ Mem l x := by simp [memB, Mem]
theorem memB_false {l : List (Int × Int)} {x : Int} : memB l x = false ↔ ¬ Mem l x := by rw [← memB_iff]; simp
theorem mem_nil (x : Int) : ¬ Mem [] x := fun ⟨_, h, _⟩ => by cases h
theorem mem_cons {s : Int × Int} {l : List (Int × Int)} {x : Int} : Mem (s :: l) x ↔ (s.1 ≤ x ∧ x < s.2) ∨ Mem l x := by
  simp [Mem]
theorem mem_app {l l' : List (Int × Int)} {x : Int} : Mem (l ++ l') x ↔ Mem l x ∨ Mem l' x := by
  simp only [Mem, List.mem_append]
  constructor
  · rintro ⟨s, h | h, h2⟩
    · exact .inl ⟨s, h, h2⟩
    · exact .inr ⟨s, h, h2⟩
  · rintro (⟨s, h, h2⟩ | ⟨s, h, h2⟩)
    · exact ⟨s, .inl h, h2⟩
    · exact ⟨s, .inr h, h2⟩
theorem mem_one {s : Int × Int} {x : Int} : Mem [s] x ↔ s.1 ≤ x ∧ x < s.2 := by simp [Mem]
theorem mem_perm {l l' : List (Int × Int)} (h : l.Perm l') {x : Int} : Mem l x ↔ Mem l' x := by
  unfold Mem
  exact ⟨fun ⟨s, h1, h2⟩ => ⟨s, h.mem_iff.1 h1, h2⟩, fun ⟨s, h1, h2⟩ => ⟨s, h.mem_iff.2 h1, h2⟩⟩

/-- spans that are not empty, apart from one another, in order -/
structure Can (l : List (Int × Int)) : Prop where
  ne : ∀ s ∈ l, s.1 < s.2
  pw : l.Pairwise fun a b => a.2 < b.1
theorem Can.nil : Can [] := ⟨fun s h => (by cases h), List.Pairwise.nil⟩
theorem Can.tail {s : Int × Int} {l : List (Int × Int)} (h : Can (s :: l)) : Can l := ⟨fun t ht => h.ne t (List.mem_cons_of_mem _ ht), (List.pairwise_cons.1 h.pw).2⟩
theorem Can.one {s : Int × Int} (h : s.1 < s.2) : Can [s] := ⟨fun t ht => by rw [List.mem_singleton.1 ht]; exact h, List.pairwise_singleton _ _⟩
theorem Can.snoc {l : List (Int × Int)} {s : Int × Int} (h : Can l) (hs : s.1 < s.2) (hl : ∀ t ∈ l, t.2 < s.1) : Can (l ++ [s]) := by
  refine ⟨fun t ht => ?_, List.pairwise_append.2 ⟨h.pw, List.pairwise_singleton _ _, fun t ht u hu => ?_⟩⟩
  · rcases List.mem_append.1 ht with ht | ht
    · exact h.ne t ht
    · rw [List.mem_singleton.1 ht]; exact hs
  · rw [List.mem_singleton.1 hu]; exact hl t ht
theorem Can.init {l : List (Int × Int)} {s : Int × Int} (h : Can (l ++ [s])) : Can l ∧ s.1 < s.2 ∧ ∀ t ∈ l, t.2 < s.1 := by
  obtain ⟨h1, _, h3⟩ := List.pairwise_append.1 h.pw
  exact ⟨⟨fun t ht => h.ne t (List.mem_append_left _ ht), h1⟩, h.ne s (by simp), fun t ht => h3 t ht s (by simp)⟩
theorem Can.last_le {l : List (Int × Int)} {s : Int × Int} (h : Can (l ++ [s])) : ∀ t ∈ l ++ [s], t.2 ≤ s.2 := by
  obtain ⟨_, h2, h3⟩ := h.init
  intro t ht
  rcases List.mem_append.1 ht with ht | ht
  · have := h3 t ht; omega
  · rw [List.mem_singleton.1 ht]; exact Int.le_refl _
theorem Can.cons_lt {s : Int × Int} {l : List (Int × Int)} (h : Can (s :: l)) {x : Int} (hx : Mem l x) : s.2 < x := by
  obtain ⟨t, ht, h1, h2⟩ := hx
  have := (List.pairwise_cons.1 h.pw).1 t ht
  omega
/-- a canonical list is known by its members -/
theorem can_unique : ∀ {l l' : List (Int × Int)}, Can l → Can l' → (∀ x, Mem l x ↔ Mem l' x) → l = l' := by
  intro l
  induction l with
  | nil =>
    intro l' _ h' hm
    cases l' with
    | nil => rfl
    | cons t l' =>
      have := (hm t.1).2 (mem_cons.2 (.inl ⟨Int.le_refl _, h'.ne t (by simp)⟩))
      exact absurd this (mem_nil _)
  | cons s l ih =>
    intro l' h h' hm
    cases l' with
    | nil =>
      have := (hm s.1).1 (mem_cons.2 (.inl ⟨Int.le_refl _, h.ne s (by simp)⟩))
      exact absurd this (mem_nil _)
    | cons t l' =>
      have hs := h.ne s (by simp)
      have ht := h'.ne t (by simp)
      have h1 := (hm s.1).1 (mem_cons.2 (.inl ⟨Int.le_refl _, hs⟩))
      have h2 := (hm t.1).2 (mem_cons.2 (.inl ⟨Int.le_refl _, ht⟩))
      have a1 : t.1 ≤ s.1 := by
        rcases mem_cons.1 h1 with h3 | h3
        · exact h3.1
        · have := h'.cons_lt h3; omega
      have a2 : s.1 ≤ t.1 := by
        rcases mem_cons.1 h2 with h3 | h3
        · exact h3.1
        · have := h.cons_lt h3; omega
      have b1 : s.2 ≤ t.2 := by
        rcases Int.lt_or_le t.2 s.2 with h3 | h3
        · exfalso
          have h4 := (hm t.2).1 (mem_cons.2 (.inl ⟨by omega, h3⟩))
          rcases mem_cons.1 h4 with h5 | h5
          · omega
          · have := h'.cons_lt h5; omega
        · exact h3
      have b2 : t.2 ≤ s.2 := by
        rcases Int.lt_or_le s.2 t.2 with h3 | h3
        · exfalso
          have h4 := (hm s.2).2 (mem_cons.2 (.inl ⟨by omega, h3⟩))
          rcases mem_cons.1 h4 with h5 | h5
          · omega
          · have := h.cons_lt h5; omega
        · exact h3
      have hst : s = t := Prod.ext (by omega) (by omega)
      subst hst
      congr 1
      refine ih h.tail h'.tail fun x => ⟨fun hx => ?_, fun hx => ?_⟩
      · have h3 := h.cons_lt hx
        rcases mem_cons.1 ((hm x).1 (mem_cons.2 (.inr hx))) with h4 | h4
        · omega
        · exact h4
      · have h3 := h'.cons_lt hx
        rcases mem_cons.1 ((hm x).2 (mem_cons.2 (.inr hx))) with h4 | h4
        · omega
        · exact h4

/-! one span more, that begins where the last one ends, or behind it -/
def addS (l : List (Int × Int)) (s : Int × Int) : List (Int × Int) :=
  match l.getLast? with
  | some t => if t.2 = s.1 then l.dropLast ++ [(t.1, s.2)] else l ++ [s]
  | none => l ++ [s]
theorem addS_nil (s : Int × Int) : addS [] s = [s] := rfl
theorem addS_snoc (l : List (Int × Int)) (t s : Int × Int) : addS (l ++ [t]) s = if t.2 = s.1 then l ++ [(t.1, s.2)] else l ++ [t] ++ [s] := by
  simp [addS]
theorem addS_ok {l : List (Int × Int)} {s : Int × Int} (h : Can l) (hs : s.1 < s.2) (hl : ∀ t ∈ l, t.2 ≤ s.1) : Can (addS l s) ∧ (∀ x, Mem (addS l s) x ↔ Mem l x ∨ (s.1 ≤ x ∧ x < s.2)) ∧ ∀ t ∈ addS l s, t.2 ≤ s.2 := by
  rcases List.eq_nil_or_concat l with rfl | ⟨l, t, rfl⟩
  · rw [addS_nil]
    exact ⟨Can.one hs, fun x => by rw [mem_one]; simp [mem_nil], fun t ht => by rw [List.mem_singleton.1 ht]; exact Int.le_refl _⟩
  · rw [List.concat_eq_append] at h hl ⊢
    rw [addS_snoc]
    obtain ⟨h1, h2, h3⟩ := h.init
    have ht := hl t (by simp)
    by_cases e : t.2 = s.1
    · rw [if_pos e]
      refine ⟨h1.snoc (by simp only []; omega) h3, fun x => ?_, fun u hu => ?_⟩
      · rw [mem_app, mem_app, mem_one, mem_one]
        simp only []
        constructor
        · rintro (h | ⟨h, h'⟩)
          · exact .inl (.inl h)
          · by_cases hx : x < t.2
            · exact .inl (.inr ⟨h, hx⟩)
            · exact .inr ⟨by omega, h'⟩
        · rintro ((h | h) | h)
          · exact .inl h
          · exact .inr ⟨h.1, by omega⟩
          · exact .inr ⟨by omega, h.2⟩
      · rcases List.mem_append.1 hu with hu | hu
        · have := h3 u hu; omega
        · rw [List.mem_singleton.1 hu]; exact Int.le_refl _
    · rw [if_neg e]
      refine ⟨h.snoc hs fun u hu => ?_, fun x => by rw [mem_app, mem_one], fun u hu => ?_⟩
      · have := h.last_le u hu; omega
      · rcases List.mem_append.1 hu with hu | hu
        · have := hl u hu; omega
        · rw [List.mem_singleton.1 hu]; exact Int.le_refl _

/-! a span that begins behind where the last one begins -/
def joinS (l : List (Int × Int)) (s : Int × Int) : List (Int × Int) :=
  match l.getLast? with
  | some t => if s.1 ≤ t.2 then l.dropLast ++ [(t.1, max t.2 s.2)] else l ++ [s]
  | none => l ++ [s]
theorem joinS_nil (s : Int × Int) : joinS [] s = [s] := rfl
theorem joinS_snoc (l : List (Int × Int)) (t s : Int × Int) : joinS (l ++ [t]) s = if s.1 ≤ t.2 then l ++ [(t.1, max t.2 s.2)] else l ++ [t] ++ [s] := by
  simp [joinS]
theorem joinS_ok {l : List (Int × Int)} {s : Int × Int} (h : Can l) (hs : s.1 < s.2) (hl : ∀ t ∈ l, t.1 ≤ s.1) : Can (joinS l s) ∧ (∀ x, Mem (joinS l s) x ↔ Mem l x ∨ (s.1 ≤ x ∧ x < s.2)) ∧ ∀ t ∈ joinS l s, t.1 ≤ s.1 := by
  rcases List.eq_nil_or_concat l with rfl | ⟨l, t, rfl⟩
  · rw [joinS_nil]
    exact ⟨Can.one hs, fun x => by rw [mem_one]; simp [mem_nil], fun t ht => by rw [List.mem_singleton.1 ht]; exact Int.le_refl _⟩
  · rw [List.concat_eq_append] at h hl ⊢
    rw [joinS_snoc]
    obtain ⟨h1, h2, h3⟩ := h.init
    have ht := hl t (by simp)
    by_cases e : s.1 ≤ t.2
    · rw [if_pos e]
      refine ⟨h1.snoc (by simp only []; omega) h3, fun x => ?_, fun u hu => ?_⟩
      · rw [mem_app, mem_app, mem_one, mem_one]
        simp only []
        constructor
        · rintro (h | ⟨h, h'⟩)
          · exact .inl (.inl h)
          · by_cases hx : x < t.2
            · exact .inl (.inr ⟨h, hx⟩)
            · exact .inr ⟨by omega, by omega⟩
        · rintro ((h | h) | h)
          · exact .inl h
          · exact .inr ⟨h.1, by omega⟩
          · exact .inr ⟨by omega, by omega⟩
      · rcases List.mem_append.1 hu with hu | hu
        · exact hl u (by simp [hu])
        · rw [List.mem_singleton.1 hu]; exact ht
    · rw [if_neg e]
      refine ⟨h.snoc hs fun u hu => ?_, fun x => by rw [mem_app, mem_one], fun u hu => ?_⟩
      · have := h.last_le u hu; omega
      · rcases List.mem_append.1 hu with hu | hu
        · exact hl u hu
        · rw [List.mem_singleton.1 hu]; exact Int.le_refl _
/-- the canonical list of spans that lie in order of their beginnings -/
def joinL (l : List (Int × Int)) : List (Int × Int) := l.foldl joinS []
theorem joinL_ok : ∀ {l : List (Int × Int)} {acc : List (Int × Int)}, Can acc → (∀ s ∈ l, s.1 < s.2) → l.Pairwise (fun a b => a.1 ≤ b.1) → (∀ t ∈ acc, ∀ s ∈ l, t.1 ≤ s.1) →
    Can (l.foldl joinS acc) ∧ ∀ x, Mem (l.foldl joinS acc) x ↔ Mem acc x ∨ Mem l x := by
  intro l
  induction l with
  | nil => intro acc h _ _ _; exact ⟨h, fun x => by simp [mem_nil]⟩
  | cons s l ih =>
    intro acc h hn hp hl
    obtain ⟨p1, p2⟩ := List.pairwise_cons.1 hp
    obtain ⟨a1, a2, a3⟩ := joinS_ok h (hn s (by simp)) (fun t ht => hl t ht s (by simp))
    obtain ⟨b1, b2⟩ := ih a1 (fun t ht => hn t (by simp [ht])) p2 (fun t ht u hu => by
      have := a3 t ht
      have := p1 u hu
      omega)
    refine ⟨b1, fun x => ?_⟩
    rw [List.foldl_cons, b2, a2, mem_cons, or_assoc]
/-- the canonical list of any spans -/
theorem joinL_mem {l : List (Int × Int)} (hn : ∀ s ∈ l, s.1 < s.2) (hp : l.Pairwise (fun a b => a.1 ≤ b.1)) : Can (joinL l) ∧ ∀ x, Mem (joinL l) x ↔ Mem l x := by
  obtain ⟨h1, h2⟩ := joinL_ok Can.nil hn hp (fun t ht => by cases ht)
  exact ⟨h1, fun x => by rw [joinL, h2]; simp [mem_nil]⟩
end
section
theorem mem_idx {l : List Sp} {x : Int} : Mem l x ↔ ∃ j, j < l.length ∧ fr l j ≤ x ∧ x < tt l j := by
  constructor
  · rintro ⟨s, hs, h⟩
    obtain ⟨j, hj, rfl⟩ := List.getElem_of_mem hs
    rw [list_fr l hj] at h
    exact ⟨j, hj, h⟩
  · rintro ⟨j, hj, h⟩
    refine ⟨l[j], List.getElem_mem hj, ?_⟩
    rw [list_fr l hj]
    exact h
theorem Can.ne' {l : List Sp} (h : Can l) {j : Nat} (hj : j < l.length) : fr l j < tt l j := by
  have := h.ne l[j] (List.getElem_mem hj)
  rw [list_fr l hj] at this
  exact this
theorem Can.lt {l : List Sp} (h : Can l) {j k : Nat} (hjk : j < k) (hk : k < l.length) : tt l j < fr l k := by
  have := List.pairwise_iff_getElem.1 h.pw j k (by omega) hk hjk
  rw [list_fr l (show j < l.length by omega), list_fr l hk] at this
  exact this
theorem Can.mk' {l : List Sp} (h1 : ∀ j, j < l.length → fr l j < tt l j) (h2 : ∀ j, j + 1 < l.length → tt l j < fr l (j + 1)) : Can l := by
  have h3 : ∀ k j, j < k → k < l.length → tt l j < fr l k := by
    intro k
    induction k with
    | zero => intro j h; omega
    | succ k ih =>
      intro j hj hk
      by_cases e : j = k
      · subst e; exact h2 j hk
      · have := ih j (by omega) (by omega)
        have := h1 k (by omega)
        have := h2 k hk
        omega
  refine ⟨fun s hs => ?_, List.pairwise_iff_getElem.2 fun i j hi hj hij => ?_⟩
  · obtain ⟨j, hj, rfl⟩ := List.getElem_of_mem hs
    rw [list_fr l hj]
    exact h1 j hj
  · rw [list_fr l hi, list_fr l hj]
    exact h3 j i hij hj

/-! the ends: 2k is where span k begins, 2k + 1 where it ends -/
def endL (l : List Sp) (n : Nat) : Int := if n % 2 = 0 then fr l (n / 2) else tt l (n / 2)
theorem endL_even (l : List Sp) (k : Nat) : endL l (2 * k) = fr l k := by unfold endL; rw [if_pos (by omega)]; congr 1; omega
theorem endL_odd (l : List Sp) (k : Nat) : endL l (2 * k + 1) = tt l k := by unfold endL; rw [if_neg (by omega)]; congr 1; omega
theorem endL_up {l : List Sp} (h : Can l) {n : Nat} (hn : n + 1 < 2 * l.length) : endL l n < endL l (n + 1) := by
  rcases Nat.mod_two_eq_zero_or_one n with h0 | h0
  · obtain ⟨k, rfl⟩ : ∃ k, n = 2 * k := ⟨n / 2, by omega⟩
    rw [endL_even, endL_odd]
    exact h.ne' (by omega)
  · obtain ⟨k, rfl⟩ : ∃ k, n = 2 * k + 1 := ⟨n / 2, by omega⟩
    rw [endL_odd, show 2 * k + 1 + 1 = 2 * (k + 1) by omega, endL_even]
    exact h.lt (by omega) (by omega)
theorem endL_mono {l : List Sp} (h : Can l) : ∀ {m n : Nat}, m < n → n < 2 * l.length → endL l m < endL l n := by
  intro m n
  induction n with
  | zero => intro h; omega
  | succ n ih =>
    intro hm hn
    have h1 := endL_up h hn
    by_cases e : m = n
    · subst e; exact h1
    · have := ih (by omega) (by omega); omega
/-- behind n ends, ahead of the next one -/
theorem endL_mem {l : List Sp} (h : Can l) {n : Nat} {x : Int} (hn : n ≤ 2 * l.length) (h1 : n = 0 ∨ endL l (n - 1) ≤ x) (h2 : n = 2 * l.length ∨ x < endL l n) : Mem l x ↔ n % 2 = 1 := by
  rw [mem_idx]
  rcases Nat.mod_two_eq_zero_or_one n with h0 | h0
  · refine ⟨fun ⟨j, hj, a, b⟩ => ?_, fun e => by omega⟩
    exfalso
    obtain ⟨k, rfl⟩ : ∃ k, n = 2 * k := ⟨n / 2, by omega⟩
    rcases Nat.lt_or_ge j k with hjk | hjk
    · have e1 : endL l (2 * k - 1) = tt l (k - 1) := by rw [show 2 * k - 1 = 2 * (k - 1) + 1 by omega, endL_odd]
      rw [e1] at h1
      by_cases e : j = k - 1
      · subst e; omega
      · have := h.lt (show j < k - 1 by omega) (by omega)
        have := h.ne' (show k - 1 < l.length by omega)
        omega
    · rw [endL_even] at h2
      by_cases e : j = k
      · subst e; omega
      · have := h.lt (show k < j by omega) hj
        have := h.ne' (show k < l.length by omega)
        omega
  · refine ⟨fun _ => h0, fun _ => ?_⟩
    obtain ⟨k, rfl⟩ : ∃ k, n = 2 * k + 1 := ⟨n / 2, by omega⟩
    refine ⟨k, by omega, ?_, ?_⟩
    · rw [show 2 * k + 1 - 1 = 2 * k by omega, endL_even] at h1; omega
    · rw [endL_odd] at h2; omega

/-! a list cut out by a rule, at ascending cuts -/
def cutL (f : Int → Bool) (c : Nat → Int) : Nat → List Sp
  | 0 => []
  | i + 1 => if f (c i) = true ∧ c i < c (i + 1) then addS (cutL f c i) (c i, c (i + 1)) else cutL f c i
theorem cutL_ok {f : Int → Bool} {c : Nat → Int} : ∀ {n : Nat}, (∀ i, i < n → c i ≤ c (i + 1)) → (∀ i, i < n → ∀ x, c i ≤ x → x < c (i + 1) → f x = f (c i)) →
    Can (cutL f c n) ∧ (∀ t ∈ cutL f c n, t.2 ≤ c n) ∧ ∀ x, Mem (cutL f c n) x ↔ c 0 ≤ x ∧ x < c n ∧ f x = true := by
  intro n
  induction n with
  | zero => intro _ _; exact ⟨Can.nil, (fun t ht => (by cases ht)), fun x => ⟨fun h => absurd h (mem_nil x), fun ⟨h1, h2, _⟩ => by omega⟩⟩
  | succ n ih =>
    intro h1 h2
    obtain ⟨a1, a2, a3⟩ := ih (fun i hi => h1 i (by omega)) (fun i hi => h2 i (by omega))
    have h0 : ∀ k, k ≤ n → c 0 ≤ c k := by
      intro k
      induction k with
      | zero => intro _; exact Int.le_refl _
      | succ k ihk => intro hk; have := ihk (by omega); have := h1 k (by omega); omega
    have hc := h0 n (Nat.le_refl _)
    have hn := h1 n (by omega)
    unfold cutL
    by_cases h : f (c n) = true ∧ c n < c (n + 1)
    · rw [if_pos h]
      obtain ⟨b1, b2, b3⟩ := addS_ok (s := (c n, c (n + 1))) a1 h.2 a2
      refine ⟨b1, b3, fun x => ?_⟩
      rw [b2, a3]
      simp only []
      constructor
      · rintro (⟨h3, h4, h5⟩ | ⟨h3, h4⟩)
        · exact ⟨h3, by omega, h5⟩
        · exact ⟨by omega, h4, by rw [h2 n (by omega) x h3 h4]; exact h.1⟩
      · rintro ⟨h3, h4, h5⟩
        by_cases hx : x < c n
        · exact .inl ⟨h3, hx, h5⟩
        · exact .inr ⟨by omega, h4⟩
    · rw [if_neg h]
      refine ⟨a1, fun t ht => by have := a2 t ht; omega, fun x => ?_⟩
      rw [a3]
      constructor
      · rintro ⟨h3, h4, h5⟩
        exact ⟨h3, by omega, h5⟩
      · rintro ⟨h3, h4, h5⟩
        refine ⟨h3, ?_, h5⟩
        rcases Int.lt_or_le x (c n) with hx | hx
        · exact hx
        · exfalso
          rw [h2 n (by omega) x hx h4] at h5
          exact h ⟨h5, by omega⟩
end
section
def R2 (rule : Bool → Bool → Bool) (a b : List Sp) (x : Int) : Bool := rule (memB a x) (memB b x)
def oddB (n : Nat) : Bool := n % 2 == 1
theorem oddB_mem {l : List Sp} (h : Can l) {n : Nat} {x : Int} (hn : n ≤ 2 * l.length) (h1 : n = 0 ∨ endL l (n - 1) ≤ x) (h2 : n < 2 * l.length → x < endL l n) : memB l x = oddB n := by
  have := endL_mem h hn h1 (by rcases Nat.lt_or_ge n (2 * l.length) with h | h; exact .inr (h2 h); exact .inl (by omega))
  unfold oddB
  rcases Nat.mod_two_eq_zero_or_one n with e | e
  · rw [e, memB_false.2 (by rw [this]; omega)]; rfl
  · rw [e, memB_iff.2 (this.2 e)]; rfl
structure CombI (rule : Bool → Bool → Bool) (a b : List Sp) (i k : Nat) (out : List Sp) : Prop where
  hi : i ≤ 2 * a.length
  hk : k ≤ 2 * b.length
  st : ∃ c, (i = 0 ∨ endL a (i - 1) ≤ c) ∧ (i < 2 * a.length → c < endL a i) ∧ (k = 0 ∨ endL b (k - 1) ≤ c) ∧ (k < 2 * b.length → c < endL b k) ∧
    (rule (oddB i) (oddB k) = false → Can out ∧ (∀ t ∈ out, t.2 ≤ c) ∧ ∀ x, x ≤ c → (Mem out x ↔ R2 rule a b x = true)) ∧
    (rule (oddB i) (oddB k) = true → ∃ o f, (∀ z, out.getLast? = some z → out = o ++ [(f, z.2)]) ∧ out ≠ [] ∧ Can o ∧ (∀ t ∈ o, t.2 < f) ∧ f ≤ c ∧ ∀ x, x ≤ c → (R2 rule a b x = true ↔ Mem o x ∨ f ≤ x))
/-- the number of ends behind the next cut -/
def nxI (l : List Sp) (n : Nat) (t : Int) : Nat := if n < 2 * l.length ∧ endL l n = t then n + 1 else n
theorem nxI_pre {l : List Sp} (h : Can l) {n : Nat} {c t : Int} (hn : n ≤ 2 * l.length) (h1 : n = 0 ∨ endL l (n - 1) ≤ c) (hct : c < t) (ht : n < 2 * l.length → t ≤ endL l n) :
    nxI l n t ≤ 2 * l.length ∧ (nxI l n t = 0 ∨ endL l (nxI l n t - 1) ≤ t) ∧ (nxI l n t < 2 * l.length → t < endL l (nxI l n t)) := by
  unfold nxI
  split
  · rename_i e
    refine ⟨by omega, .inr (by rw [Nat.add_sub_cancel]; omega), fun h2 => ?_⟩
    have := endL_up h h2
    omega
  · rename_i e
    refine ⟨hn, h1.imp id (by omega), fun h2 => ?_⟩
    have := ht h2
    by_cases e2 : endL l n = t
    · exact absurd ⟨h2, e2⟩ e
    · omega
theorem CombI.init {rule : Bool → Bool → Bool} {a b : List Sp} (h0 : rule false false = false) (ha : Can a) (hb : Can b) : CombI rule a b 0 0 [] := by
  refine ⟨by omega, by omega, mi (endL a 0) (endL b 0) - 1, .inl rfl, fun _ => ?_, .inl rfl, fun _ => ?_, fun _ => ⟨Can.nil, fun t ht => (by cases ht), fun x hx => ?_⟩, fun h => ?_⟩
  · unfold mi; split <;> omega
  · unfold mi; split <;> omega
  · have hx' : x < endL a 0 ∧ x < endL b 0 := by unfold mi at hx; split at hx <;> omega
    have h1 := oddB_mem ha (n := 0) (x := x) (by omega) (.inl rfl) fun _ => hx'.1
    have h2 := oddB_mem hb (n := 0) (x := x) (by omega) (.inl rfl) fun _ => hx'.2
    unfold R2
    rw [h1, h2]
    refine ⟨fun h => absurd h (mem_nil x), fun h => ?_⟩
    rw [show rule (oddB 0) (oddB 0) = false from h0] at h
    cases h
  · rw [show rule (oddB 0) (oddB 0) = false from h0] at h
    cases h
theorem CombI.step {rule : Bool → Bool → Bool} {a b : List Sp} (ha : Can a) (hb : Can b) {i k : Nat} {out : List Sp} (h : CombI rule a b i k out) {t : Int}
    (ht : i < 2 * a.length ∧ t = endL a i ∨ k < 2 * b.length ∧ t = endL b k) (hta : i < 2 * a.length → t ≤ endL a i) (htb : k < 2 * b.length → t ≤ endL b k) :
    ∃ out', CombI rule a b (nxI a i t) (nxI b k t) out' ∧ i + k < nxI a i t + nxI b k t ∧
      out' = (if rule (oddB i) (oddB k) = false ∧ rule (oddB (nxI a i t)) (oddB (nxI b k t)) = true then out ++ [(t, 0)]
        else if rule (oddB i) (oddB k) = true ∧ rule (oddB (nxI a i t)) (oddB (nxI b k t)) = false then out.set (out.length - 1) ((out.getD (out.length - 1) (0, 0)).1, t) else out) ∧
      (rule (oddB i) (oddB k) = true → 0 < out.length) := by
  obtain ⟨hi, hk, c, a1, a2, b1, b2, cF, cT⟩ := h
  have hct : c < t := by rcases ht with ⟨h1, h2⟩ | ⟨h1, h2⟩; have := a2 h1; omega; have := b2 h1; omega
  obtain ⟨p1, p2, p3⟩ := nxI_pre ha hi a1 hct hta
  obtain ⟨q1, q2, q3⟩ := nxI_pre hb hk b1 hct htb
  have hlt : i + k < nxI a i t + nxI b k t := by
    have e1 : i ≤ nxI a i t := by unfold nxI; split <;> omega
    have e2 : k ≤ nxI b k t := by unfold nxI; split <;> omega
    rcases ht with ⟨h1, h2⟩ | ⟨h1, h2⟩
    · have : nxI a i t = i + 1 := if_pos ⟨h1, h2.symm⟩
      omega
    · have : nxI b k t = k + 1 := if_pos ⟨h1, h2.symm⟩
      omega
  have hmid : ∀ x, c ≤ x → x < t → R2 rule a b x = rule (oddB i) (oddB k) := fun x h1 h2 => by
    unfold R2
    rw [oddB_mem ha hi (a1.imp id (by omega)) (fun h => by have := hta h; omega), oddB_mem hb hk (b1.imp id (by omega)) (fun h => by have := htb h; omega)]
  have hat : R2 rule a b t = rule (oddB (nxI a i t)) (oddB (nxI b k t)) := by
    unfold R2
    rw [oddB_mem ha p1 p2 p3, oddB_mem hb q1 q2 q3]
  obtain ⟨i', hi'⟩ : ∃ i', nxI a i t = i' := ⟨_, rfl⟩
  obtain ⟨k', hk'⟩ : ∃ k', nxI b k t = k' := ⟨_, rfl⟩
  rw [hi'] at p1 p2 p3 hlt hat ⊢
  rw [hk'] at q1 q2 q3 hlt hat ⊢
  cases hB : rule (oddB i) (oddB k) with
  | false =>
    obtain ⟨u1, u2, u3⟩ := cF hB
    rw [hB] at hmid
    cases hA : rule (oddB i') (oddB k') with
    | true =>
      rw [hA] at hat
      refine ⟨_, ⟨p1, q1, t, p2, p3, q2, q3, (fun h => by rw [hA] at h; cases h), fun _ => ⟨out, t, fun z hz => ?_, by simp, u1, fun s hs => by have := u2 s hs; omega, Int.le_refl _, fun x hx => ?_⟩⟩, hlt, rfl, fun h => by cases h⟩
      · simp at hz ⊢; rw [← hz]
      · by_cases e : x ≤ c
        · rw [← u3 x e]; exact ⟨.inl, fun h => h.elim id (by omega)⟩
        · by_cases e2 : x < t
          · rw [hmid x (by omega) e2]
            refine ⟨(fun h => by cases h), fun h => ?_⟩
            rcases h with ⟨s, hs, h1, h2⟩ | h
            · have := u2 s hs; omega
            · omega
          · have : x = t := by omega
            subst this
            rw [hat]
            exact ⟨fun _ => .inr (Int.le_refl _), fun _ => rfl⟩
    | false =>
      rw [hA] at hat
      refine ⟨_, ⟨p1, q1, t, p2, p3, q2, q3, fun _ => ⟨u1, fun s hs => by have := u2 s hs; omega, fun x hx => ?_⟩, fun h => by rw [hA] at h; cases h⟩, hlt, by simp, fun h => by cases h⟩
      by_cases e : x ≤ c
      · exact u3 x e
      · have : R2 rule a b x = false := by
          by_cases e2 : x < t
          · exact hmid x (by omega) e2
          · have : x = t := by omega
            subst this; exact hat
        rw [this]
        refine ⟨?_, (fun h => by cases h)⟩
        rintro ⟨s, hs, h1, h2⟩
        have := u2 s hs; omega
  | true =>
    obtain ⟨o, f, v1, v2, v3, v4, v5, v6⟩ := cT hB
    rw [hB] at hmid
    have hl : 0 < out.length := List.length_pos_iff.2 v2
    obtain ⟨z, hz⟩ : ∃ z, out.getLast? = some z := by
      cases hz : out.getLast? with
      | none => rw [List.getLast?_eq_none_iff] at hz; exact absurd hz v2
      | some z => exact ⟨z, rfl⟩
    have ho := v1 z hz
    have hset : out.set (out.length - 1) ((out.getD (out.length - 1) (0, 0)).1, t) = o ++ [(f, t)] := by
      rw [ho]
      simp
    cases hA : rule (oddB i') (oddB k') with
    | false =>
      rw [hA] at hat
      refine ⟨_, ⟨p1, q1, t, p2, p3, q2, q3, fun _ => ?_, fun h => by rw [hA] at h; cases h⟩, hlt, rfl, fun _ => hl⟩
      simp only [Bool.true_eq_false, false_and, if_false, true_and, if_true]
      rw [hset]
      refine ⟨v3.snoc (by show f < t; omega) v4, fun s hs => ?_, fun x hx => ?_⟩
      · rcases List.mem_append.1 hs with hs | hs
        · have := v4 s hs; omega
        · rw [List.mem_singleton.1 hs]; exact Int.le_refl _
      · rw [mem_app, mem_one]
        by_cases e : x ≤ c
        · rw [v6 x e]
          exact ⟨fun h => h.imp id fun h => h.1, fun h => h.imp id fun h => ⟨h, by show x < t; omega⟩⟩
        · by_cases e2 : x < t
          · rw [hmid x (by omega) e2]
            exact ⟨fun _ => rfl, fun _ => .inr ⟨by show f ≤ x; omega, e2⟩⟩
          · have : x = t := by omega
            subst this
            rw [hat]
            refine ⟨fun h => ?_, (fun h => by cases h)⟩
            rcases h with ⟨s, hs, h1, h2⟩ | ⟨_, h⟩
            · have := v4 s hs; omega
            · exact absurd h (Int.lt_irrefl _)
    | true =>
      rw [hA] at hat
      refine ⟨_, ⟨p1, q1, t, p2, p3, q2, q3, (fun h => by rw [hA] at h; cases h), fun _ => ⟨o, f, v1, v2, v3, v4, by omega, fun x hx => ?_⟩⟩, hlt, by simp, fun _ => hl⟩
      by_cases e : x ≤ c
      · exact v6 x e
      · have : R2 rule a b x = true := by
          by_cases e2 : x < t
          · exact hmid x (by omega) e2
          · have : x = t := by omega
            subst this; exact hat
        rw [this]
        exact ⟨fun _ => .inr (by omega), fun _ => rfl⟩
theorem CombI.done {rule : Bool → Bool → Bool} {a b : List Sp} (ha : Can a) (hb : Can b) (h0 : rule false false = false) {out : List Sp} (h : CombI rule a b (2 * a.length) (2 * b.length) out) :
    Can out ∧ ∀ x, Mem out x ↔ R2 rule a b x = true := by
  obtain ⟨hi, hk, c, a1, a2, b1, b2, cF, cT⟩ := h
  have e1 : oddB (2 * a.length) = false := by unfold oddB; rw [show 2 * a.length % 2 = 0 by omega]; rfl
  have e2 : oddB (2 * b.length) = false := by unfold oddB; rw [show 2 * b.length % 2 = 0 by omega]; rfl
  obtain ⟨u1, u2, u3⟩ := cF (by rw [e1, e2]; exact h0)
  refine ⟨u1, fun x => ?_⟩
  by_cases e : x ≤ c
  · exact u3 x e
  · have : R2 rule a b x = false := by
      unfold R2
      rw [oddB_mem ha (Nat.le_refl _) (a1.imp id (by omega)) (by omega), oddB_mem hb (Nat.le_refl _) (b1.imp id (by omega)) (by omega), e1, e2]; exact h0
    rw [this]
    refine ⟨?_, (fun h => by cases h)⟩
    rintro ⟨s, hs, h1, h2⟩
    have := u2 s hs; omega
end
section
abbrev Rc := Int × Int × Int × Int
abbrev Seg := Int × Int × List Sp
def rcs (s : Seg) : List Rc := s.2.2.map fun v => (v.1, v.2, s.1, s.2.1)
def flatG (g : List Seg) : List Rc := g.flatMap rcs
theorem flatG_nil : flatG [] = [] := rfl
theorem flatG_cons (s : Seg) (g : List Seg) : flatG (s :: g) = rcs s ++ flatG g := by simp [flatG]
theorem flatG_app (g h : List Seg) : flatG (g ++ h) = flatG g ++ flatG h := by simp [flatG]
theorem flatG_one (s : Seg) : flatG [s] = rcs s := by simp [flatG]
theorem rcs_len (s : Seg) : (rcs s).length = s.2.2.length := by simp [rcs]
def setAt : List Seg → Int → List Sp
  | [], _ => []
  | s :: g, t => if s.1 ≤ t ∧ t < s.2.1 then s.2.2 else setAt g t
theorem setAt_none : ∀ {g : List Seg} {t : Int}, (∀ r ∈ g, ¬ (r.1 ≤ t ∧ t < r.2.1)) → setAt g t = [] := by
  intro g t
  induction g with
  | nil => intro _; rfl
  | cons s g ih =>
    intro h
    unfold setAt
    rw [if_neg (h s (List.mem_cons_self ..))]
    exact ih fun r hr => h r (List.mem_cons_of_mem _ hr)
theorem setAt_app : ∀ {g h : List Seg} {t : Int}, (∀ r ∈ g, ¬ (r.1 ≤ t ∧ t < r.2.1)) → setAt (g ++ h) t = setAt h t := by
  intro g h t
  induction g with
  | nil => intro _; rfl
  | cons s g ih =>
    intro hg
    show (if s.1 ≤ t ∧ t < s.2.1 then s.2.2 else setAt (g ++ h) t) = setAt h t
    rw [if_neg (hg s (List.mem_cons_self ..))]
    exact ih fun r hr => hg r (List.mem_cons_of_mem _ hr)
theorem setAt_app' : ∀ {g h : List Seg} {t : Int}, (∀ r ∈ h, ¬ (r.1 ≤ t ∧ t < r.2.1)) → setAt (g ++ h) t = setAt g t := by
  intro g h t hh
  induction g with
  | nil => exact setAt_none hh
  | cons s g ih =>
    show (if s.1 ≤ t ∧ t < s.2.1 then s.2.2 else setAt (g ++ h) t) = (if s.1 ≤ t ∧ t < s.2.1 then s.2.2 else setAt g t)
    rw [ih]
structure SegOk (s : Seg) : Prop where
  lt : s.1 < s.2.1
  ne : s.2.2 ≠ []
  can : Can s.2.2
def Nxt (s s' : Seg) : Prop := s.2.1 < s'.1 ∨ (s.2.1 = s'.1 ∧ s.2.2 ≠ s'.2.2)
def ChG : List Seg → Prop
  | [] => True
  | [_] => True
  | s :: s' :: g => Nxt s s' ∧ ChG (s' :: g)
structure CanG (g : List Seg) : Prop where
  ok : ∀ s ∈ g, SegOk s
  ch : ChG g
theorem CanG.nil : CanG [] := ⟨fun s h => (by cases h), trivial⟩
theorem CanG.tail {s : Seg} {g : List Seg} (h : CanG (s :: g)) : CanG g := by
  refine ⟨fun r hr => h.ok r (List.mem_cons_of_mem _ hr), ?_⟩
  have := h.ch
  cases g with
  | nil => trivial
  | cons r g => exact this.2
theorem CanG.after : ∀ {g : List Seg} {s : Seg}, CanG (s :: g) → ∀ r ∈ g, s.2.1 ≤ r.1 := by
  intro g
  induction g with
  | nil => intro s _ r hr; cases hr
  | cons s' g ih =>
    intro s h r hr
    have h1 : s.2.1 ≤ s'.1 := by
      rcases h.ch.1 with h1 | h1
      · omega
      · omega
    rcases List.mem_cons.1 hr with rfl | hr
    · exact h1
    · have h2 := ih h.tail r hr
      have h3 := (h.ok s' (by simp)).lt
      omega
theorem CanG.after' {s : Seg} {g : List Seg} (h : CanG (s :: g)) {t : Int} (ht : t < s.2.1) : ∀ r ∈ g, ¬ (r.1 ≤ t ∧ t < r.2.1) := fun r hr hc => by
  have := h.after r hr
  omega
/-- what has the same sets at each time is the same -/
theorem uniqG : ∀ {g g' : List Seg}, CanG g → CanG g' → (∀ t, setAt g t = setAt g' t) → g = g' := by
  intro g
  induction g with
  | nil =>
    intro g' _ h' he
    cases g' with
    | nil => rfl
    | cons s g' =>
      exfalso
      have hs := h'.ok s (by simp)
      have := he s.1
      unfold setAt at this
      rw [if_pos ⟨Int.le_refl _, hs.lt⟩] at this
      exact hs.ne this.symm
  | cons s g ih =>
    intro g' h h' he
    have hs := h.ok s (by simp)
    cases g' with
    | nil =>
      exfalso
      have := he s.1
      unfold setAt at this
      rw [if_pos ⟨Int.le_refl _, hs.lt⟩] at this
      exact hs.ne this
    | cons s' g' =>
      have hs' := h'.ok s' (by simp)
      have in1 : ∀ t, s.1 ≤ t → t < s.2.1 → setAt (s :: g) t = s.2.2 := fun t h1 h2 => by unfold setAt; rw [if_pos ⟨h1, h2⟩]
      have in2 : ∀ t, s'.1 ≤ t → t < s'.2.1 → setAt (s' :: g') t = s'.2.2 := fun t h1 h2 => by unfold setAt; rw [if_pos ⟨h1, h2⟩]
      have lo1 : ∀ t, t < s.1 → setAt (s :: g) t = [] := fun t ht => setAt_none fun r hr hc => by
        rcases List.mem_cons.1 hr with rfl | hr
        · omega
        · have := h.after r hr; have := hs.lt; omega
      have lo2 : ∀ t, t < s'.1 → setAt (s' :: g') t = [] := fun t ht => setAt_none fun r hr hc => by
        rcases List.mem_cons.1 hr with rfl | hr
        · omega
        · have := h'.after r hr; have := hs'.lt; omega
      have hf : s.1 = s'.1 := by
        rcases Int.lt_trichotomy s.1 s'.1 with h1 | h1 | h1
        · exfalso
          have := he s.1
          rw [in1 _ (Int.le_refl _) hs.lt, lo2 _ h1] at this
          exact hs.ne this
        · exact h1
        · exfalso
          have := he s'.1
          rw [in2 _ (Int.le_refl _) hs'.lt, lo1 _ h1] at this
          exact hs'.ne this.symm
      have hl : s.2.2 = s'.2.2 := by
        have := he s.1
        rw [in1 _ (Int.le_refl _) hs.lt, in2 _ (by omega) (by have := hs'.lt; omega)] at this
        exact this
      have ends : ∀ {s : Seg} {g : List Seg}, CanG (s :: g) → setAt (s :: g) s.2.1 ≠ s.2.2 := by
        intro s g h
        have hs := h.ok s (by simp)
        unfold setAt
        rw [if_neg (by omega)]
        cases g with
        | nil => exact fun e => hs.ne e.symm
        | cons r g =>
          unfold setAt
          split
          · rename_i hc
            rcases h.ch.1 with h1 | h1
            · omega
            · exact fun e => h1.2 e.symm
          · rename_i hc
            have hr := h.tail.ok r (by simp)
            have : setAt g s.2.1 = [] := setAt_none fun q hq hcc => by
              have := h.tail.after q hq
              have := h.after r (by simp)
              have := hr.lt
              omega
            rw [this]
            exact fun e => hs.ne e.symm
      have ht : s.2.1 = s'.2.1 := by
        rcases Int.lt_trichotomy s.2.1 s'.2.1 with h1 | h1 | h1
        · exfalso
          have := he s.2.1
          rw [in2 _ (by have := hs.lt; omega) h1, ← hl] at this
          exact ends h this
        · exact h1
        · exfalso
          have := he s'.2.1
          rw [in1 _ (by have := hs'.lt; omega) h1, hl] at this
          exact ends h' this.symm
      have hss : s = s' := by
        obtain ⟨a, b, c⟩ := s
        obtain ⟨a', b', c'⟩ := s'
        simp only at hf hl ht
        rw [hf, hl, ht]
      subst hss
      congr 1
      refine ih h.tail h'.tail fun t => ?_
      rcases Int.lt_or_le t s.2.1 with h1 | h1
      · rw [setAt_none (h.after' h1), setAt_none (h'.after' h1)]
      · have := he t
        unfold setAt at this
        rw [if_neg (by omega), if_neg (by omega)] at this
        exact this
theorem chG_snoc : ∀ {g : List Seg} {r s : Seg}, ChG (g ++ [r]) → Nxt r s → ChG (g ++ [r] ++ [s]) := by
  intro g
  induction g with
  | nil => intro r s _ h; exact ⟨h, trivial⟩
  | cons a g ih =>
    intro r s h hn
    cases g with
    | nil => exact ⟨h.1, hn, trivial⟩
    | cons b g => exact ⟨h.1, ih h.2 hn⟩
theorem chG_last : ∀ {g : List Seg} {r s : Seg}, ChG (g ++ [r]) → s.1 = r.1 → s.2.2 = r.2.2 → ChG (g ++ [s]) := by
  intro g
  induction g with
  | nil => intro r s _ _ _; trivial
  | cons a g ih =>
    intro r s h h1 h2
    cases g with
    | nil => exact ⟨by have := h.1; unfold Nxt at *; rw [h1, h2]; exact this, trivial⟩
    | cons b g => exact ⟨h.1, ih h.2 h1 h2⟩
def addG (g : List Seg) (s : Seg) : List Seg :=
  if s.2.2 = [] then g else
  match g.getLast? with
  | some r => if r.2.1 = s.1 ∧ r.2.2 = s.2.2 then g.dropLast ++ [(r.1, s.2.1, r.2.2)] else g ++ [s]
  | none => [s]
theorem addG_none (g : List Seg) {s : Seg} (h : s.2.2 = []) : addG g s = g := by unfold addG; rw [if_pos h]
theorem addG_nil {s : Seg} (h : s.2.2 ≠ []) : addG [] s = [s] := by unfold addG; rw [if_neg h]; rfl
theorem addG_snoc (g : List Seg) (r : Seg) {s : Seg} (h : s.2.2 ≠ []) : addG (g ++ [r]) s = if r.2.1 = s.1 ∧ r.2.2 = s.2.2 then g ++ [(r.1, s.2.1, r.2.2)] else g ++ [r] ++ [s] := by
  unfold addG; rw [if_neg h]; simp
theorem snoc_cases {α : Type} (l : List α) : l = [] ∨ ∃ u x, l = u ++ [x] := by
  rcases List.eq_nil_or_concat l with h | ⟨u, x, h⟩
  · exact .inl h
  · exact .inr ⟨u, x, by rw [h, List.concat_eq_append]⟩
theorem addG_ok {g : List Seg} {s : Seg} (h : CanG g) (hs : s.1 < s.2.1) (hc : Can s.2.2) (he : ∀ r ∈ g, r.2.1 ≤ s.1) :
    CanG (addG g s) ∧ (∀ t, setAt (addG g s) t = if s.1 ≤ t ∧ t < s.2.1 then s.2.2 else setAt g t) ∧ ∀ r ∈ addG g s, r.2.1 ≤ s.2.1 := by
  have hout : ∀ t, s.1 ≤ t → ∀ r ∈ g, ¬ (r.1 ≤ t ∧ t < r.2.1) := fun t ht r hr hcc => by have := he r hr; omega
  by_cases h0 : s.2.2 = []
  · rw [addG_none g h0]
    refine ⟨h, fun t => ?_, fun r hr => by have := he r hr; omega⟩
    split
    · rename_i hh
      rw [h0]; exact setAt_none (hout t hh.1)
    · rfl
  · rcases snoc_cases g with rfl | ⟨u, r, rfl⟩
    · rw [addG_nil h0]
      exact ⟨⟨fun q hq => by rw [List.mem_singleton.1 hq]; exact ⟨hs, h0, hc⟩, trivial⟩, fun t => rfl, fun q hq => by rw [List.mem_singleton.1 hq]; exact Int.le_refl _⟩
    · have hr := h.ok r (by simp)
      have hre := he r (by simp)
      rw [addG_snoc u r h0]
      split
      · rename_i hh
        refine ⟨⟨fun q hq => ?_, chG_last h.ch rfl rfl⟩, fun t => ?_, fun q hq => ?_⟩
        · rcases List.mem_append.1 hq with hq | hq
          · exact h.ok q (by simp [hq])
          · rw [List.mem_singleton.1 hq]; exact ⟨by have := hr.lt; show r.1 < s.2.1; omega, hr.ne, hr.can⟩
        · by_cases hu : ∀ q ∈ u, ¬ (q.1 ≤ t ∧ t < q.2.1)
          · rw [setAt_app hu, setAt_app hu]
            show (if r.1 ≤ t ∧ t < s.2.1 then r.2.2 else setAt [] t) = if s.1 ≤ t ∧ t < s.2.1 then s.2.2 else (if r.1 ≤ t ∧ t < r.2.1 then r.2.2 else setAt [] t)
            have := hr.lt
            split
            · split
              · exact hh.2
              · rw [if_pos (by omega)]
            · rw [if_neg (by omega), if_neg (by omega)]
          · have hq : ∃ q ∈ u, q.1 ≤ t ∧ t < q.2.1 := by
              refine Classical.byContradiction fun hn => hu fun q hq hc => hn ⟨q, hq, hc⟩
            obtain ⟨q, hq, hq1, hq2⟩ := hq
            have hlt : t < r.1 := by
              have : ∀ (u : List Seg), CanG (u ++ [r]) → q ∈ u → q.2.1 ≤ r.1 := by
                intro u
                induction u with
                | nil => intro _ h; cases h
                | cons a u ih =>
                  intro hc hm
                  rcases List.mem_cons.1 hm with rfl | hm
                  · exact CanG.after hc r (by simp)
                  · exact ih hc.tail hm
              have := this u h hq
              omega
            rw [if_neg (by have := hr.lt; omega)]
            have e1 : ∀ x : Seg, t < x.1 → ∀ p ∈ [x], ¬ (p.1 ≤ t ∧ t < p.2.1) := fun x hx p hp hcc => by rw [List.mem_singleton.1 hp] at hcc; omega
            rw [setAt_app' (e1 _ (by exact hlt)), setAt_app' (e1 r hlt)]
        · rcases List.mem_append.1 hq with hq | hq
          · have := he q (by simp [hq]); omega
          · rw [List.mem_singleton.1 hq]; exact Int.le_refl _
      · rename_i hh
        refine ⟨⟨fun q hq => ?_, chG_snoc h.ch ?_⟩, fun t => ?_, fun q hq => ?_⟩
        · rcases List.mem_append.1 hq with hq | hq
          · exact h.ok q hq
          · rw [List.mem_singleton.1 hq]; exact ⟨hs, h0, hc⟩
        · rcases Int.lt_or_le r.2.1 s.1 with h1 | h1
          · exact .inl h1
          · have : r.2.1 = s.1 := by omega
            exact .inr ⟨this, fun e => hh ⟨this, e⟩⟩
        · split
          · rename_i hcc
            rw [setAt_app (hout t hcc.1)]
            unfold setAt; rw [if_pos hcc]
          · rename_i hcc
            refine setAt_app' fun p hp hc2 => ?_
            rw [List.mem_singleton.1 hp] at hc2
            exact hcc hc2
        · rcases List.mem_append.1 hq with hq | hq
          · have := he q hq; omega
          · rw [List.mem_singleton.1 hq]; exact Int.le_refl _
/-- the segments between ends -/
def buildG (E : Nat → Int) (F : Nat → List Sp) : Nat → List Seg
  | 0 => []
  | n + 1 => addG (buildG E F n) (E n, E (n + 1), F n)
theorem asc_le {E : Nat → Int} {n : Nat} (hE : ∀ i, i < n → E i < E (i + 1)) : ∀ i j, i ≤ j → j ≤ n → E i ≤ E j := by
  intro i j hij
  induction j with
  | zero => intro _; have : i = 0 := by omega
            subst this; exact Int.le_refl _
  | succ j ih =>
    intro hj
    rcases Nat.lt_or_ge i (j + 1) with h | h
    · have h1 := ih (by omega) (by omega)
      have h2 := hE j (by omega)
      omega
    · have : i = j + 1 := by omega
      subst this; exact Int.le_refl _
theorem buildG_ok {E : Nat → Int} {F : Nat → List Sp} : ∀ {n : Nat}, (∀ i, i < n → E i < E (i + 1)) → (∀ i, i < n → Can (F i)) →
    CanG (buildG E F n) ∧ (∀ r ∈ buildG E F n, r.2.1 ≤ E n) ∧ (∀ i, i < n → ∀ t, E i ≤ t → t < E (i + 1) → setAt (buildG E F n) t = F i) ∧ ∀ t, t < E 0 ∨ E n ≤ t → setAt (buildG E F n) t = [] := by
  intro n
  induction n with
  | zero => intro _ _; exact ⟨CanG.nil, fun r h => (by cases h), fun i h => (by omega), fun t _ => rfl⟩
  | succ n ih =>
    intro hE hF
    obtain ⟨h1, h2, h3, h4⟩ := ih (fun i hi => hE i (by omega)) (fun i hi => hF i (by omega))
    obtain ⟨g1, g2, g3⟩ := addG_ok (s := (E n, E (n + 1), F n)) h1 (hE n (by omega)) (hF n (by omega)) h2
    refine ⟨g1, g3, fun i hi t ht1 ht2 => ?_, fun t ht => ?_⟩
    · show setAt (addG _ _) t = _
      rw [g2]
      rcases Nat.lt_or_ge i n with h | h
      · have := asc_le hE (i + 1) n (by omega) (by omega)
        rw [if_neg (by show ¬ (E n ≤ t ∧ t < E (n + 1)); omega)]
        exact h3 i h t ht1 ht2
      · have : i = n := by omega
        subst this
        rw [if_pos ⟨ht1, ht2⟩]
    · show setAt (addG _ _) t = _
      rw [g2]
      have a1 := asc_le hE 0 n (by omega) (by omega)
      have a2 := hE n (by omega)
      rw [if_neg (by show ¬ (E n ≤ t ∧ t < E (n + 1)); omega)]
      exact h4 t (by omega)
def inR (r : Rc) (v t : Int) : Bool := decide (r.1 ≤ v) && decide (v < r.2.1) && decide (r.2.2.1 ≤ t) && decide (t < r.2.2.2)
def inL (l : List Rc) (v t : Int) : Bool := l.any fun r => inR r v t
theorem inL_rcs (s : Seg) (v t : Int) : inL (rcs s) v t = (decide (s.1 ≤ t ∧ t < s.2.1) && memB s.2.2 v) := by
  unfold inL rcs memB
  rw [List.any_map]
  induction s.2.2 with
  | nil => simp
  | cons a l ih =>
    rw [List.any_cons, List.any_cons, ih]
    simp only [Function.comp, inR]
    by_cases h : s.1 ≤ t ∧ t < s.2.1
    · simp [h]
    · rw [show decide (s.1 ≤ t ∧ t < s.2.1) = false from decide_eq_false h]
      have : (decide (s.1 ≤ t) && decide (t < s.2.1)) = false := by
        by_cases h1 : s.1 ≤ t
        · have : ¬ t < s.2.1 := fun h2 => h ⟨h1, h2⟩
          simp [this]
        · simp [h1]
      rw [Bool.and_assoc, this]
      simp
theorem inL_flat : ∀ {g : List Seg}, CanG g → ∀ v t, inL (flatG g) v t = memB (setAt g t) v := by
  intro g
  induction g with
  | nil => intro _ v t; rfl
  | cons s g ih =>
    intro h v t
    rw [flatG_cons]
    have e1 : inL (rcs s ++ flatG g) v t = (inL (rcs s) v t || inL (flatG g) v t) := by simp [inL]
    have e2 : setAt (s :: g) t = if s.1 ≤ t ∧ t < s.2.1 then s.2.2 else setAt g t := rfl
    rw [e1, inL_rcs, ih h.tail, e2]
    by_cases hc : s.1 ≤ t ∧ t < s.2.1
    · rw [if_pos hc, setAt_none (h.after' hc.2)]
      simp [hc, memB]
    · rw [if_neg hc]
      simp [hc]
theorem flatG_empty {g : List Seg} (h : CanG g) (he : flatG g = []) : g = [] := by
  cases g with
  | nil => rfl
  | cons s g =>
    exfalso
    have hs := h.ok s (by simp)
    rw [flatG_cons] at he
    have := List.append_eq_nil_iff.1 he
    have h2 := congrArg List.length this.1
    rw [rcs_len] at h2
    exact hs.ne (List.eq_nil_of_length_eq_zero h2)
end
section
theorem nat_tdiv (a b : Nat) : ((a : Int)).tdiv (b : Int) = ((a / b : Nat) : Int) := by rw [Int.tdiv_eq_ediv_of_nonneg (by omega)]; exact (Int.natCast_ediv a b).symm
theorem nat_tmod (a b : Nat) : ((a : Int)).tmod (b : Int) = ((a % b : Nat) : Int) := by rw [Int.tmod_eq_emod_of_nonneg (by omega)]; exact (Int.natCast_emod a b).symm
theorem ands {β : Type} (a b : Bool) (k : Bool → Option β) : Option.bind (bif a then some b else some false : Option Bool) k = k (a && b) := by cases a <;> rfl
def svB (a b : Int) : Bool := decide (-4398046511104 ≤ a ∧ b ≤ 4398046511104 ∧ a < b)
theorem svB_iff {a b : Int} : svB a b = true ↔ -4398046511104 ≤ a ∧ b ≤ 4398046511104 ∧ a < b := decide_eq_true_iff
theorem p_interval_line (a : Int) : m_interval_line std a = some (decide (-4398046511104 ≤ a ∧ a ≤ 4398046511104)) := by
  rw [m_interval_line_eq, ands]
  congr 1
  by_cases h : -4398046511104 ≤ a
  · rw [dT h]; simp [h]
  · rw [dF h]; simp [h]
theorem p_interval_Valid (a b : Int) : m_interval_Valid std a b = some (svB a b) := by
  rw [m_interval_Valid_eq, p_interval_line, Option.bind_some, p_interval_line, Option.bind_some]
  by_cases h : -4398046511104 ≤ a ∧ a ≤ 4398046511104
  · rw [dT h]
    by_cases h2 : -4398046511104 ≤ b ∧ b ≤ 4398046511104
    · rw [dT h2]
      simp only [cond_true, Option.bind_some]
      congr 1
      unfold svB
      rw [decide_eq_decide]; omega
    · rw [dF h2]
      simp only [cond_true, cond_false, Option.bind_some]
      congr 1
      unfold svB
      by_cases h3 : a < b
      · exact (dF (by omega)).symm
      · exact (dF (by omega)).symm
  · rw [dF h]
    simp only [cond_false, Option.bind_some]
    congr 1
    unfold svB
    exact (dF (by omega)).symm

theorem p_ref12_Number (a : Int) : m_ref12_Number std a = some (decide (-4398046511104 ≤ a ∧ a ≤ 4398046511104)) := by
  rw [m_ref12_Number_eq, ands]
  congr 1
  by_cases h : -4398046511104 ≤ a
  · rw [dT h]; simp [h]
  · rw [dF h]; simp [h]
theorem p_ref12_Span (a b : Int) : m_ref12_Span std a b = some (svB a b) := by
  rw [m_ref12_Span_eq, p_ref12_Number, Option.bind_some, p_ref12_Number, Option.bind_some]
  by_cases h : -4398046511104 ≤ a ∧ a ≤ 4398046511104
  · rw [dT h]
    by_cases h2 : -4398046511104 ≤ b ∧ b ≤ 4398046511104
    · rw [dT h2]
      simp only [cond_true, Option.bind_some]
      congr 1
      unfold svB
      rw [decide_eq_decide]; omega
    · rw [dF h2]
      simp only [cond_true, cond_false, Option.bind_some]
      congr 1
      unfold svB
      by_cases h3 : a < b
      · exact (dF (by omega)).symm
      · exact (dF (by omega)).symm
  · rw [dF h]
    simp only [cond_false, Option.bind_some]
    congr 1
    unfold svB
    exact (dF (by omega)).symm

/-! a loop over places that may stop -/
theorem loop_first {ε : Type} {B : Int → Option (Int ⊕ ε)} {n : Nat} {p : Nat → Bool} {e1 : Nat → ε} {e0 : ε} (hn : n < 1180591620717411303423) (hs : ∀ i, i < n → p i = true → B (i : Int) = some (.inl ((i + 1 : Nat) : Int))) (hx : ∀ i, i < n → p i = false → B (i : Int) = some (.inr (e1 i))) (he : B (n : Int) = some (.inr e0)) :
    (∀ i, i < n → p i = true) ∧ loop B 0 = some e0 ∨ ∃ k, k < n ∧ p k = false ∧ (∀ i, i < k → p i = true) ∧ loop B 0 = some (e1 k) := by
  rcases first_or p n with h | ⟨k, h1, h2, h3⟩
  · exact .inl ⟨h, loop_to' (fun i => (i : Int)) (by omega) (fun i hi => hs i hi (h i hi)) he⟩
  · exact .inr ⟨k, h1, h2, h3, loop_to' (n := k) (fun i => (i : Int)) (by omega) (fun i hi => hs i (by omega) (h3 i hi)) (hx k h1 h2)⟩
theorem all_get {α : Type} (d : α) (l : List α) (p : α → Bool) : l.all p = true ↔ ∀ k, k < l.length → p (l.getD k d) = true := by
  rw [List.all_eq_true]
  constructor
  · intro h k hk
    have := h l[k] (List.getElem_mem hk)
    rwa [List.getD_eq_getElem?_getD, List.getElem?_eq_getElem hk]
  · intro h s hs
    obtain ⟨k, hk, rfl⟩ := List.getElem_of_mem hs
    have := h k hk
    rwa [List.getD_eq_getElem?_getD, List.getElem?_eq_getElem hk] at this
/-- slices.IndexFunc, as a loop: does one element fail the test? -/
theorem p_index {α : Type} {d : α} {l : List α} {p : α → Bool} {B : Int → Option (Int ⊕ (Int ⊕ Unit))} (hl : l.length ≤ 1099511627776)
    (h1 : ∀ i, i < l.length → B (i : Int) = if p (l.getD i d) = true then some (.inl ((i + 1 : Nat) : Int)) else some (.inr (.inl (i : Int)))) (h0 : B (l.length : Int) = some (.inr (.inr ()))) :
    (Option.bind (Option.bind (loop B 0) fun e => match e with | .inl x7 => (some x7) | .inr (_) => (some (-1)) : Option Int) fun n9 => some (decide (0 ≤ n9))) = some (!l.all p) := by
  have h2 := loop_first (B := B) (n := l.length) (p := fun i => p (l.getD i d)) (e1 := fun i => .inl (i : Int)) (e0 := .inr ()) (by omega)
    (fun i hi hp => by rw [h1 i hi, if_pos hp]) (fun i hi hp => by rw [h1 i hi, if_neg (by rw [hp]; decide)]) h0
  rcases h2 with ⟨h3, h4⟩ | ⟨k, h3, h4, _, h5⟩
  · rw [h4, (all_get d l p).2 h3]; rfl
  · have : l.all p = false := by
      rw [Bool.eq_false_iff]
      intro h
      rw [(all_get d l p).1 h k h3] at h4; cases h4
    rw [h5, this]
    simp only [Option.bind_some]
    rw [dT (show (0 : Int) ≤ (k : Int) by omega)]; rfl
theorem fr_def (l : List Sp) (k : Nat) : (List.getD l k (0, 0)).1 = fr l k := rfl
theorem tt_def (l : List Sp) (k : Nat) : (List.getD l k (0, 0)).2 = tt l k := rfl

/-- all spans are on the line -/
def spsB (l : List Sp) : Bool := l.all fun s => svB s.1 s.2
theorem p_runs_bad (l : List Sp) (hl : l.length ≤ 1099511627776) : m_slices_ContainsFunc_2 std l = some (!spsB l) := by
  rw [m_slices_ContainsFunc_2_eq, m_slices_IndexFunc_2_eq]
  refine p_index (d := ((0, 0) : Sp)) hl (fun i hi => ?_) (by rw [m_slices_IndexFunc_2_L1_eq]; exact bF (dF (by omega)) rfl)
  rw [m_slices_IndexFunc_2_L1_eq, m_runs_Of_1_eq]
  simp only [Int.toNat_natCast]
  rw [p_interval_Valid]
  refine bT (dT (by omega)) (gX (by omega) (gK hi (bB rfl ?_)))
  cases svB (List.getD l i (0, 0)).1 (List.getD l i (0, 0)).2 with
  | true => exact gI (by omega) rfl
  | false => rfl

/-! canonical lists -/
def canAt (l : List Sp) (i : Nat) : Bool := svB (fr l i) (tt l i) && (i == 0 || decide (tt l (i - 1) < fr l i))
theorem canAt_iff {l : List Sp} {i : Nat} : canAt l i = true ↔ (-4398046511104 ≤ fr l i ∧ tt l i ≤ 4398046511104 ∧ fr l i < tt l i) ∧ (i = 0 ∨ tt l (i - 1) < fr l i) := by
  unfold canAt
  rw [Bool.and_eq_true, svB_iff]; simp
def Line (l : List Sp) : Prop := ∀ s ∈ l, -4398046511104 ≤ s.1 ∧ s.2 ≤ 4398046511104
def canB (l : List Sp) : Bool := (List.range l.length).all (canAt l)
theorem canB_at {l : List Sp} : canB l = true ↔ ∀ k, k < l.length → canAt l k = true := by unfold canB; rw [List.all_eq_true]; simp
theorem canB_iff {l : List Sp} : canB l = true ↔ Can l ∧ Line l := by
  rw [canB_at]
  constructor
  · intro h
    refine ⟨Can.mk' (fun j hj => (canAt_iff.1 (h j hj)).1.2.2) (fun j hj => by rcases (canAt_iff.1 (h (j + 1) hj)).2 with h | h; omega; exact h), fun s hs => ?_⟩
    obtain ⟨k, hk, rfl⟩ := List.getElem_of_mem hs
    have := (canAt_iff.1 (h k hk)).1
    rw [list_fr l hk]
    exact ⟨this.1, this.2.1⟩
  · rintro ⟨h1, h2⟩ k hk
    have h3 := h2 l[k] (List.getElem_mem hk)
    rw [list_fr l hk] at h3
    refine canAt_iff.2 ⟨⟨h3.1, h3.2, h1.ne' hk⟩, ?_⟩
    rcases Nat.eq_zero_or_pos k with h | h
    · exact .inl h
    · exact .inr (h1.lt (show k - 1 < k by omega) hk)
theorem p_runs_Valid (l : List Sp) (hl : l.length ≤ 1099511627776) : Option.bind (loop (m_runs_Valid_L1 std l) 0) (fun e => match e with | .inl _ => some false | .inr _ => some true) = some (canB l) := by
  have h1 : ∀ i, i < l.length → m_runs_Valid_L1 std l (i : Int) = if canAt l i = true then some (.inl ((i + 1 : Nat) : Int)) else some (.inr (.inl ())) := fun i hi => by
    have hX : Option.bind (m_interval_Valid std (fr l i) (tt l i)) (fun b8 => bif (!b8) then some true else bif decide (0 < (i : Int)) then grd (okI .i64 ((i : Int) - 1)) <| grd (okIdx ((i : Int) - 1) l.length) <| grd (okKin (Int.toNat ((i : Int) - 1)) l.length) <| some (decide (fr l i ≤ tt l (Int.toNat ((i : Int) - 1)))) else some false) = some (!canAt l i) := by
      rw [p_interval_Valid]
      refine bB rfl ?_
      unfold canAt
      cases hv : svB (fr l i) (tt l i) with
      | false => rfl
      | true =>
        rcases Nat.eq_zero_or_pos i with h0 | h0
        · subst h0; rfl
        · refine bF rfl (bT (dT (by omega)) (gI (by omega) (gX (by omega) (gK (by omega) (congrArg some ?_)))))
          rw [show Int.toNat ((i : Int) - 1) = i - 1 by omega]
          have : (i == 0) = false := by simp; omega
          rw [this]
          simp only [Bool.true_and, Bool.false_or]
          by_cases h : tt l (i - 1) < fr l i
          · rw [dT h, dF (by omega)]; rfl
          · rw [dF h, dT (by omega)]; rfl
    rw [m_runs_Valid_L1_eq]
    simp only [Int.toNat_natCast, fr_def, tt_def]
    refine bT (dT (by omega)) ?_
    first
      | refine gX (by omega) (gK hi (bB hX ?_))
      | refine bB (gX (by omega) (gK hi hX)) ?_
    cases canAt l i with
    | true => exact gI (by omega) rfl
    | false => rfl
  have h2 := loop_first (B := m_runs_Valid_L1 std l) (n := l.length) (p := canAt l) (e1 := fun _ => .inl ()) (e0 := .inr ()) (by omega)
    (fun i hi hp => by rw [h1 i hi, if_pos hp]) (fun i hi hp => by rw [h1 i hi, if_neg (by rw [hp]; decide)]) (by rw [m_runs_Valid_L1_eq]; exact bF (dF (by omega)) rfl)
  rcases h2 with ⟨h3, h4⟩ | ⟨k, h3, h4, _, h5⟩
  · rw [h4, canB_at.2 h3]; rfl
  · have : canB l = false := by
      rw [Bool.eq_false_iff]
      intro h
      rw [canB_at.1 h k h3] at h4; cases h4
    rw [h5, this]; rfl
theorem p_runs_Valid' (l : List Sp) : m_runs_Valid std l = some (decide (l.length ≤ 2000) && canB l) := by
  rw [m_runs_Valid_eq]
  by_cases h : l.length ≤ 2000
  · rw [dT h, Bool.true_and]
    exact bF (dF (by omega)) (p_runs_Valid l (by omega))
  · rw [dF h]
    exact bT (dT (by omega)) rfl
theorem p_runs_done (l : List Sp) : m_runs_done std l = some (if l.length ≤ 2000 then .inr 0 else .inl ([], 5)) := by
  rw [m_runs_done_eq]
  by_cases h : l.length ≤ 2000
  · rw [dF (show ¬ (2000 : Int) < ((l.length : Nat) : Int) by omega), if_pos h]; rfl
  · rw [dT (show (2000 : Int) < ((l.length : Nat) : Int) by omega), if_neg h]; rfl
/-- equality of lists, as a loop -/
theorem p_equal {α : Type} [DecidableEq α] {d : α} {l l' : List α} {B : Int → Option (Int ⊕ (Unit ⊕ Unit))} (hl : l.length ≤ 1099511627776)
    (h1 : l.length = l'.length → ∀ i, i < l.length → B (i : Int) = if decide (l.getD i d = l'.getD i d) = true then some (.inl ((i + 1 : Nat) : Int)) else some (.inr (.inl ()))) (h0 : B (l.length : Int) = some (.inr (.inr ()))) :
    (bif (!((((List.length l) : Nat) : Int) == (((List.length l') : Nat) : Int))) then (some false) else Option.bind (loop B 0) fun e => match e with | .inl _ => (some false) | .inr (_) => (some true)) = some (decide (l = l')) := by
  by_cases hn : l.length = l'.length
  · refine bF (nF (eT (by omega))) ?_
    have h2 := loop_first (B := B) (n := l.length) (p := fun i => decide (l.getD i d = l'.getD i d)) (e1 := fun _ => .inl ()) (e0 := .inr ()) (by omega)
      (fun i hi hp => by rw [h1 hn i hi, if_pos hp]) (fun i hi hp => by rw [h1 hn i hi, if_neg (by rw [hp]; decide)]) h0
    rcases h2 with ⟨h3, h4⟩ | ⟨k, h3, h4, _, h5⟩
    · rw [h4]
      have : l = l' := by
        refine List.ext_getElem hn fun i hi hi' => ?_
        have := of_decide_eq_true (h3 i hi)
        rw [List.getD_eq_getElem?_getD, List.getD_eq_getElem?_getD, List.getElem?_eq_getElem hi, List.getElem?_eq_getElem hi'] at this
        exact this
      rw [decide_eq_true this]; rfl
    · rw [h5]
      have : ¬ l = l' := fun e => by
        have := of_decide_eq_false h4
        rw [e] at this
        exact this rfl
      rw [decide_eq_false this]; rfl
  · refine bT (nT (eF (by omega))) ?_
    rw [decide_eq_false (fun e => hn (by rw [e]))]
theorem p_slices_Equal (l l' : List Sp) (hl : l.length ≤ 1099511627776) : m_slices_Equal std l l' = some (decide (l = l')) := by
  rw [m_slices_Equal_eq]
  refine p_equal (d := ((0, 0) : Sp)) hl (fun hn i hi => ?_) (by rw [m_slices_Equal_L1_eq]; exact bF (dF (by omega)) rfl)
  rw [m_slices_Equal_L1_eq]
  simp only [Int.toNat_natCast]
  refine bT (dT (by omega)) (gX (by omega) (gK hi (gX (by omega) (gK (by omega) ?_))))
  generalize List.getD l i (0, 0) = x
  generalize List.getD l' i (0, 0) = y
  obtain ⟨x1, x2⟩ := x
  obtain ⟨y1, y2⟩ := y
  by_cases h : (x1, x2) = (y1, y2)
  · cases h
    rw [if_pos (by simp)]
    exact bF (by simp) (gI (by omega) rfl)
  · rw [if_neg (by simpa using h)]
    refine bT ?_ rfl
    simp only [Prod.mk.injEq] at h
    simp only [Bool.not_eq_true', Bool.and_eq_false_iff, beq_eq_false_iff_ne, ne_eq]
    omega
theorem p_slices_Equal_2 (l l' : List (Int × Int × Int × Int)) (hl : l.length ≤ 1099511627776) : m_slices_Equal_2 std l l' = some (decide (l = l')) := by
  rw [m_slices_Equal_2_eq]
  refine p_equal (d := ((0, 0, 0, 0) : Int × Int × Int × Int)) hl (fun hn i hi => ?_) (by rw [m_slices_Equal_2_L1_eq]; exact bF (dF (by omega)) rfl)
  rw [m_slices_Equal_2_L1_eq]
  simp only [Int.toNat_natCast]
  refine bT (dT (by omega)) (gX (by omega) (gK hi (gX (by omega) (gK (by omega) ?_))))
  generalize List.getD l i (0, 0, 0, 0) = x
  generalize List.getD l' i (0, 0, 0, 0) = y
  obtain ⟨x1, x2, x3, x4⟩ := x
  obtain ⟨y1, y2, y3, y4⟩ := y
  by_cases h : (x1, x2, x3, x4) = (y1, y2, y3, y4)
  · cases h
    rw [if_pos (by simp)]
    exact bF (by simp) (gI (by omega) rfl)
  · rw [if_neg (by simpa using h)]
    refine bT ?_ rfl
    simp only [Prod.mk.injEq] at h
    simp only [Bool.not_eq_true', Bool.and_eq_false_iff, beq_eq_false_iff_ne, ne_eq]
    omega
end
section
theorem joinS_len (l : List Sp) (s : Sp) : (joinS l s).length ≤ l.length + 1 := by
  rcases List.eq_nil_or_concat l with rfl | ⟨l', t, rfl⟩
  · rw [joinS_nil]; simp
  · simp only [List.concat_eq_append]
    rw [joinS_snoc]
    split <;> simp
theorem joinL_snoc (l : List Sp) (s : Sp) : joinL (l ++ [s]) = joinS (joinL l) s := by unfold joinL; rw [List.foldl_append]; rfl
theorem take_succ' (l : List Sp) {i : Nat} (hi : i < l.length) : l.take (i + 1) = l.take i ++ [(fr l i, tt l i)] := by
  rw [List.take_succ_eq_append_getElem hi, list_fr l hi]
theorem joinL_len (l : List Sp) : (joinL l).length ≤ l.length := by
  have key : ∀ n, n ≤ l.length → (joinL (l.take n)).length ≤ n := by
    intro n
    induction n with
    | zero => intro _; simp [joinL]
    | succ n ih =>
      intro h
      rw [take_succ' l (by omega), joinL_snoc]
      have := joinS_len (joinL (l.take n)) (fr l n, tt l n)
      have := ih (by omega)
      omega
  have := key l.length (Nat.le_refl _)
  rwa [List.take_length] at this
theorem p_runs_Of_L1 (l : List Sp) (hl : l.length ≤ 1099511627775) : loop (m_runs_Of_L1 std l) (0, ([] : List Sp)) = some (joinL l) := by
  have h := loop_up (B := m_runs_Of_L1 std l) (n := l.length) (fun i => joinL (l.take i)) (e := joinL l) (by omega) (fun i hi => by
    have hlen := joinL_len (l.take i)
    rw [List.length_take] at hlen
    rw [take_succ' l hi, joinL_snoc, m_runs_Of_L1_eq]
    generalize joinL (l.take i) = acc at *
    simp only [Int.toNat_natCast, fr_def, tt_def]
    refine bT (dT (by omega)) (gX (by omega) (gK hi ?_))
    rcases List.eq_nil_or_concat acc with rfl | ⟨l', t, rfl⟩
    · refine bB (v := false) (bF (dF (by simp)) rfl) (bB (v := [(fr l i, tt l i)]) (bF rfl (gR (by simp) (gR (by simp) rfl))) (gI (by omega) ?_))
      rw [joinS_nil]; rfl
    · simp only [List.concat_eq_append] at *
      have hn : (l' ++ [t]).length = l'.length + 1 := by simp
      have e1 : Int.toNat ((((l' ++ [t]).length : Nat) : Int) - 1) = l'.length := by rw [hn]; omega
      have e2 : tt (l' ++ [t]) l'.length = t.2 := by simp [tt]
      have e3 : fr (l' ++ [t]) l'.length = t.1 := by simp [fr]
      simp only [e1, e2, e3]
      rw [joinS_snoc]
      refine bB (v := decide (fr l i ≤ t.2)) (bT (dT (by omega)) (gI (by omega) (gX (by omega) (gK (by omega) rfl)))) ?_
      by_cases h : fr l i ≤ t.2
      · rw [if_pos h, dT h]
        refine bB (v := l' ++ [(t.1, max t.2 (tt l i))]) (bT rfl (gI (by omega) (gX (by omega) (gK (by omega) (congrArg some ?_))))) (gI (by omega) rfl)
        rw [List.set_append_right _ _ (Nat.le_refl _)]
        have : ma t.2 (tt l i) = max t.2 (tt l i) := by unfold ma; rw [Int.max_def]; split <;> split <;> omega
        rw [this]; simp
      · rw [if_neg h, dF h]
        exact bB (v := l' ++ [t] ++ [(fr l i, tt l i)]) (bF rfl (gR (by omega) (gR (by simp) rfl))) (gI (by omega) rfl)) (by
    rw [m_runs_Of_L1_eq]
    refine bF (dF (by omega)) ?_
    show some (Sum.inr (joinL (l.take l.length))) = _
    rw [List.take_length])
  exact h
theorem p_sortSp {l : List Sp} (hb : BndL l) (hl : l.length ≤ 1099511627776) : m_sortSp std l = some (sortSp l) := by
  rw [m_sortSp_eq, dT hb]
  exact gR hl rfl
/-- sorted and joined -/
theorem joined_ok {l : List Sp} (hb : BndL l) (hn : ∀ s ∈ l, s.1 < s.2) : Can (joinL (sortSp l)) ∧ (∀ x, Mem (joinL (sortSp l)) x ↔ Mem l x) ∧ (joinL (sortSp l)).length ≤ l.length := by
  have hp := sortSp_perm l
  obtain ⟨h1, h2⟩ := joinL_mem (l := sortSp l) (fun s hs => hn s (hp.mem_iff.1 hs)) (sortSp_sorted hb)
  refine ⟨h1, fun x => (h2 x).trans (mem_perm hp), ?_⟩
  have := joinL_len (sortSp l)
  rw [sortSp_len] at this
  exact this
/-- the canonical list of spans -/
def ofS (l : List Sp) : List Sp := joinL (sortSp l)
theorem spsB_iff {l : List Sp} : spsB l = true ↔ ∀ s ∈ l, -4398046511104 ≤ s.1 ∧ s.2 ≤ 4398046511104 ∧ s.1 < s.2 := by
  unfold spsB
  rw [List.all_eq_true]
  exact ⟨fun h s hs => svB_iff.1 (h s hs), fun h s hs => svB_iff.2 (h s hs)⟩
theorem ofS_ok {l : List Sp} (h : spsB l = true) : Can (ofS l) ∧ (∀ x, Mem (ofS l) x ↔ Mem l x) ∧ (ofS l).length ≤ l.length := by
  have h' := spsB_iff.1 h
  exact joined_ok (fun x hx => by have := h' x hx; omega) (fun s hs => (h' s hs).2.2)
/-- what lies in spans on a line lies on it -/
theorem line_of {l : List Sp} {lo hi : Int} (hc : Can l) (h : ∀ x, Mem l x → lo ≤ x ∧ x < hi) : ∀ s ∈ l, lo ≤ s.1 ∧ s.2 ≤ hi := fun s hs => by
  have h1 := hc.ne s hs
  have a := h s.1 ⟨s, hs, Int.le_refl _, h1⟩
  have b := h (s.2 - 1) ⟨s, hs, by omega, by omega⟩
  omega
theorem p_runs_Of {l : List Sp} (hl : l.length ≤ 1099511627775) : m_runs_Of std l = some (if spsB l = true then (if (ofS l).length ≤ 2000 then (ofS l, 0) else ([], 5)) else ([], 1)) := by
  rw [m_runs_Of_eq, p_runs_bad l (by omega), Option.bind_some]
  cases hb : spsB l with
  | false => rfl
  | true =>
    have h' := spsB_iff.1 hb
    have hB : BndL l := fun x hx => by have := h' x hx; omega
    refine bF rfl (bB (v := l) (by rw [m_clone_i2_eq]; exact gR (by omega) rfl) (bB (p_sortSp hB (by omega)) (bB (p_runs_Of_L1 (sortSp l) (by rw [sortSp_len]; omega)) ?_)))
    rw [if_pos rfl]
    show _ = some (if (joinL (sortSp l)).length ≤ 2000 then (joinL (sortSp l), 0) else ([], 5))
    have hd := p_runs_done (joinL (sortSp l))
    by_cases h : (joinL (sortSp l)).length ≤ 2000
    · rw [if_pos h] at hd ⊢
      exact bB (bB hd rfl) rfl
    · rw [if_neg h] at hd ⊢
      exact bB (bB hd rfl) rfl

/-! two lists at the same time -/
theorem odd_eq (i : Nat) : ((Int.tmod (i : Int) 2) == 1) = oddB i := by
  have h := nat_tmod i 2
  rw [show ((2 : Nat) : Int) = 2 from rfl] at h
  rw [h]
  unfold oddB
  rcases Nat.mod_two_eq_zero_or_one i with e | e <;> rw [e] <;> rfl
def endA (l : List Sp) (n : Nat) : Int := if n < 2 * l.length then endL l n else 8796093022208
theorem p_end (l : List Sp) (hl : l.length ≤ 1099511627776) (n : Nat) (hn : n ≤ 2 * l.length) : m_runs_combine_1 std (n : Int) l = some (endA l n) := by
  rw [m_runs_combine_1_eq]
  have h := nat_tdiv n 2
  rw [show ((2 : Nat) : Int) = 2 from rfl] at h
  have h' := nat_tmod n 2
  rw [show ((2 : Nat) : Int) = 2 from rfl] at h'
  rw [h, h']
  refine gI (by omega) ?_
  unfold endA
  by_cases hc : n < 2 * l.length
  · rw [if_pos hc]
    refine bF (eF (by omega)) (gZ (by omega) ?_)
    simp only [Int.toNat_natCast, fr_def, tt_def]
    unfold endL
    rcases Nat.mod_two_eq_zero_or_one n with e | e
    · rw [if_pos e]
      exact bT (by rw [e]; rfl) (gI (by omega) (gX (by omega) (gK (by omega) rfl)))
    · rw [if_neg (by omega)]
      exact bF (by rw [e]; rfl) (gI (by omega) (gX (by omega) (gK (by omega) rfl)))
  · rw [if_neg hc]
    exact bT (eT (by omega)) rfl
theorem endL_line {l : List Sp} (h : Line l) (hc : Can l) {n : Nat} (hn : n < 2 * l.length) : -4398046511104 ≤ endL l n ∧ endL l n ≤ 4398046511104 := by
  have hk : n / 2 < l.length := by omega
  have h1 := h l[n / 2] (List.getElem_mem hk)
  have h2 := hc.ne' hk
  rw [list_fr l hk] at h1
  unfold endL
  split <;> (simp only at h1; omega)
def rOr (a b : Bool) : Bool := a || b
def rAnd (a b : Bool) : Bool := a && b
def rSub (a b : Bool) : Bool := a && !b
theorem p_Union_1 (a b : Bool) : m_runs_Union_1 std a b = some (rOr a b) := by rw [m_runs_Union_1_eq]; cases a <;> cases b <;> rfl
theorem p_Meet_1 (a b : Bool) : m_runs_Meet_1 std a b = some (rAnd a b) := by rw [m_runs_Meet_1_eq]; cases a <;> cases b <;> rfl
theorem p_Minus_1 (a b : Bool) : m_runs_Minus_1 std a b = some (rSub a b) := by rw [m_runs_Minus_1_eq]; cases a <;> cases b <;> rfl
theorem mi_le (a b : Int) : mi a b ≤ a ∧ mi a b ≤ b ∧ (mi a b = a ∨ mi a b = b) := by
  unfold mi; split <;> omega
/-- the list with the run that is open -/
def opn (b : Bool) (f : Int) (out : List Sp) : List Sp := if b = true then out ++ [(f, 0)] else out
/-- the state of the program: closed runs, whether one is open, and from where -/
structure CombP (rule : Bool → Bool → Bool) (a b : List Sp) (i k : Nat) (ins : Bool) (f : Int) (out : List Sp) : Prop where
  c : CombI rule a b i k (opn ins f out)
  iq : ins = rule (oddB i) (oddB k)
  len : 2 * out.length + ins.toNat ≤ i + k
theorem CombP.step {rule : Bool → Bool → Bool} {a b : List Sp} (ha : Can a) (hb : Can b) {i k : Nat} {ins : Bool} {f : Int} {out : List Sp} (h : CombP rule a b i k ins f out) {t : Int}
    (u1 : i < 2 * a.length ∧ t = endL a i ∨ k < 2 * b.length ∧ t = endL b k) (u2 : i < 2 * a.length → t ≤ endL a i) (u3 : k < 2 * b.length → t ≤ endL b k) {i' k' : Nat} (ei : nxI a i t = i') (ek : nxI b k t = k') :
    i + k < i' + k' ∧ i' ≤ 2 * a.length ∧ k' ≤ 2 * b.length ∧ CombP rule a b i' k' (rule (oddB i') (oddB k')) (if rule (oddB i') (oddB k') = ins then f else t) (if rule (oddB i') (oddB k') = ins then out else if ins = true then out ++ [(f, t)] else out) := by
  obtain ⟨out', s1, s2, s3, s4⟩ := h.c.step ha hb u1 u2 u3
  rw [ei, ek] at s1 s2 s3
  refine ⟨s2, s1.hi, s1.hk, ?_, rfl, ?_⟩
  · have hi0 := h.iq
    rw [← hi0] at s3
    cases h0 : ins <;> cases h1 : rule (oddB i') (oddB k') <;> rw [h0] at s3 <;> rw [h1] at s3 <;> simp [opn] at s3 ⊢
    · rw [s3] at s1; exact s1
    · rw [s3] at s1; exact s1
    · rw [s3] at s1; exact s1
    · rw [s3] at s1; exact s1
  · have hl := h.len
    cases h0 : ins <;> cases h1 : rule (oddB i') (oddB k') <;> rw [h0] at hl <;> simp at hl ⊢ <;> omega
theorem p_runs_combine_L1 {a b out : List Sp} {i k : Nat} {ins : Bool} {fm : Int} (ha : Can a) (hb : Can b) (la : Line a) (lb : Line b) (hla : a.length ≤ 1000000) (hlb : b.length ≤ 1000000) (h : CombP rOr a b i k ins fm out) (hne : i < 2 * a.length ∨ k < 2 * b.length) :
    ∃ (i' k' : Nat) (ins' : Bool) (fm' : Int) (out' : List Sp), m_runs_combine_L1 std a b ((i : Int), (k : Int), ins, fm, out) = some (.inl ((i' : Int), (k' : Int), ins', fm', out')) ∧ CombP rOr a b i' k' ins' fm' out' ∧ i + k < i' + k' := by
  have hi := h.c.hi
  have hk := h.c.hk
  obtain ⟨t, ht⟩ : ∃ t, mi (endA a i) (endA b k) = t := ⟨_, rfl⟩
  have hm := mi_le (endA a i) (endA b k)
  rw [ht] at hm
  have hA : endA a i = if i < 2 * a.length then endL a i else 8796093022208 := rfl
  have hB : endA b k = if k < 2 * b.length then endL b k else 8796093022208 := rfl
  have bA : i < 2 * a.length → endL a i ≤ 4398046511104 := fun h => (endL_line la ha h).2
  have bB' : k < 2 * b.length → endL b k ≤ 4398046511104 := fun h => (endL_line lb hb h).2
  obtain ⟨i', hi'⟩ : ∃ i', nxI a i t = i' := ⟨_, rfl⟩
  obtain ⟨k', hk'⟩ : ∃ k', nxI b k t = k' := ⟨_, rfl⟩
  have u1 : i < 2 * a.length ∧ t = endL a i ∨ k < 2 * b.length ∧ t = endL b k := by
    by_cases c1 : i < 2 * a.length
    · have := bA c1
      rw [if_pos c1] at hA
      by_cases c2 : k < 2 * b.length
      · rw [if_pos c2] at hB
        rcases hm.2.2 with e | e
        · exact .inl ⟨c1, by omega⟩
        · exact .inr ⟨c2, by omega⟩
      · rw [if_neg c2] at hB
        exact .inl ⟨c1, by omega⟩
    · have c2 : k < 2 * b.length := by omega
      have := bB' c2
      rw [if_neg c1] at hA
      rw [if_pos c2] at hB
      exact .inr ⟨c2, by omega⟩
  have u2 : i < 2 * a.length → t ≤ endL a i := fun c => by rw [if_pos c] at hA; omega
  have u3 : k < 2 * b.length → t ≤ endL b k := fun c => by rw [if_pos c] at hB; omega
  have tl : t ≤ 4398046511104 := by
    rcases u1 with ⟨c, e⟩ | ⟨c, e⟩
    · have := bA c; omega
    · have := bB' c; omega
  obtain ⟨s2, s3, s4, s5⟩ := h.step ha hb u1 u2 u3 hi' hk'
  refine ⟨i', k', _, _, _, ?_, s5, s2⟩
  have ni : (Option.bind (bif (endA a i == t) then grd (okI .i64 ((i : Int) + 1)) <| some ((i : Int) + 1) else some (i : Int) : Option Int) fun z => some z) = some (i' : Int) := by
    rw [← hi']
    unfold nxI
    by_cases c : i < 2 * a.length ∧ endL a i = t
    · rw [if_pos c]
      exact bB (v := ((i + 1 : Nat) : Int)) (bT (eT (by rw [hA, if_pos c.1]; exact c.2)) (gI (by omega) rfl)) rfl
    · rw [if_neg c]
      refine bB (v := (i : Int)) (bF (eF fun e => ?_) rfl) rfl
      by_cases c1 : i < 2 * a.length
      · rw [hA, if_pos c1] at e; exact c ⟨c1, e⟩
      · rw [hA, if_neg c1] at e; omega
  have nk : (Option.bind (bif (endA b k == t) then grd (okI .i64 ((k : Int) + 1)) <| some ((k : Int) + 1) else some (k : Int) : Option Int) fun z => some z) = some (k' : Int) := by
    rw [← hk']
    unfold nxI
    by_cases c : k < 2 * b.length ∧ endL b k = t
    · rw [if_pos c]
      exact bB (v := ((k + 1 : Nat) : Int)) (bT (eT (by rw [hB, if_pos c.1]; exact c.2)) (gI (by omega) rfl)) rfl
    · rw [if_neg c]
      refine bB (v := (k : Int)) (bF (eF fun e => ?_) rfl) rfl
      by_cases c1 : k < 2 * b.length
      · rw [hB, if_pos c1] at e; exact c ⟨c1, e⟩
      · rw [hB, if_neg c1] at e; omega
  have ni' := ni
  have nk' := nk
  simp only [Option.bind_some, Option.bind_fun_some] at ni' nk'
  rw [m_runs_combine_L1_eq, p_end a (by omega) i hi, p_end b (by omega) k hk]
  have c0 : (Option.bind (bif (decide ((i : Int) < (2 * (((List.length a) : Nat) : Int)))) then grd (okI .i64 ((2 * (((List.length a) : Nat) : Int)))) <| (some true) else grd (okI .i64 ((2 * (((List.length a) : Nat) : Int)))) <| grd (okI .i64 ((2 * (((List.length b) : Nat) : Int)))) <| (some (decide ((k : Int) < (2 * (((List.length b) : Nat) : Int))))) : Option Bool) fun z => some z) = some true := by
    by_cases c : i < 2 * a.length
    · exact bB (v := true) (bT (dT (by omega)) (gI (by omega) rfl)) rfl
    · exact bB (v := true) (bF (dF (by omega)) (gI (by omega) (gI (by omega) (congrArg some (dT (by omega)))))) rfl
  simp only [Option.bind_fun_some] at c0
  refine bB c0 (bT rfl (bB rfl (bB rfl (bB rfl ?_))))
  rw [ht]
  refine bB ni' (bB rfl (bB nk' (gZ (by omega) ?_)))
  rw [odd_eq, odd_eq]
  refine bB (p_Union_1 _ _) ?_
  by_cases hq : rOr (oddB i') (oddB k') = ins
  · rw [hq]
    simp only [if_true]
    exact bT (by simp) rfl
  · rw [if_neg hq, if_neg hq]
    refine bF (by simpa using hq) ?_
    have hl := h.len
    cases hins : ins with
    | true => exact bB (v := out ++ [(fm, t)]) (bT rfl (gR (by omega) (gR (by simp) rfl))) rfl
    | false => exact bB (v := out) (bF rfl rfl) rfl
theorem p_runs_combine {a b : List Sp} (ha : Can a) (hb : Can b) (la : Line a) (lb : Line b) (hla : a.length ≤ 1000) (hlb : b.length ≤ 1000) :
    ∃ r, m_runs_combine std a b = some (r, 0) ∧ Can r ∧ (∀ x, Mem r x ↔ R2 rOr a b x = true) ∧ r.length ≤ a.length + b.length := by
  have h := loop_is (B := m_runs_combine_L1 std a b) (y := (0, 0, false, 0, ([] : List Sp))) (fun y => ∃ i k : Nat, y.1 = (i : Int) ∧ y.2.1 = (k : Int) ∧ CombP rOr a b i k y.2.2.1 y.2.2.2.1 y.2.2.2.2)
    (fun y => 2 * a.length + 2 * b.length - (y.1.toNat + y.2.1.toNat)) (fun r => Can r ∧ (∀ x, Mem r x ↔ R2 rOr a b x = true) ∧ r.length ≤ a.length + b.length)
    ⟨0, 0, rfl, rfl, CombI.init rfl ha hb, rfl, by simp⟩ (by show _ - _ < _; omega) (by
      rintro ⟨x, z, ins, fm, out⟩ ⟨i, k, h1, h2, hc⟩
      change x = (i : Int) at h1
      change z = (k : Int) at h2
      change CombP rOr a b i k ins fm out at hc
      subst h1; subst h2
      have hi := hc.c.hi
      have hk := hc.c.hk
      by_cases hne : i < 2 * a.length ∨ k < 2 * b.length
      · obtain ⟨i', k', ins', fm', out', e, c1, c2⟩ := p_runs_combine_L1 ha hb la lb (by omega) (by omega) hc hne
        refine ⟨_, e, ⟨i', k', rfl, rfl, c1⟩, ?_⟩
        have := c1.c.hi
        have := c1.c.hk
        show 2 * a.length + 2 * b.length - ((i' : Int).toNat + (k' : Int).toNat) < 2 * a.length + 2 * b.length - ((i : Int).toNat + (k : Int).toNat)
        simp only [Int.toNat_natCast]
        omega
      · have e1 : i = 2 * a.length := by omega
        have e2 : k = 2 * b.length := by omega
        refine ⟨.inr out, ?_, ?_⟩
        · rw [m_runs_combine_L1_eq]
          exact bB (v := false) (bF (dF (by omega)) (gI (by omega) (gI (by omega) (congrArg some (dF (by omega)))))) (bF rfl rfl)
        · subst e1; subst e2
          have hins : ins = false := by
            rw [hc.iq]
            have e3 : ∀ n, oddB (2 * n) = false := fun n => by unfold oddB; rw [Nat.mul_mod_right]; rfl
            rw [e3, e3]; rfl
          have hcc := hc.c
          rw [hins] at hcc
          obtain ⟨d1, d2⟩ := CombI.done ha hb rfl hcc
          have hl := hc.len
          have hlen' : out.length ≤ a.length + b.length := by omega
          exact ⟨d1, d2, hlen'⟩)
  obtain ⟨r, e, h1, h2, h3⟩ := h
  refine ⟨r, ?_, h1, h2, h3⟩
  have hv : ∀ {l : List Sp}, Can l → Line l → l.length ≤ 1000 → m_runs_Valid std l = some true := fun {l} hc hl hn => by
    rw [p_runs_Valid', dT (by omega), canB_iff.2 ⟨hc, hl⟩]; rfl
  rw [m_runs_combine_eq]
  refine bB (v := false) (bB (hv ha la hla) (bF rfl (bB (hv hb lb hlb) rfl))) (bF rfl (bB e ?_))
  have hd := p_runs_done r
  rw [if_pos (by omega)] at hd
  exact bB (bB hd rfl) rfl
theorem p_runs_combine_2_L1 {a b out : List Sp} {i k : Nat} {ins : Bool} {fm : Int} (ha : Can a) (hb : Can b) (la : Line a) (lb : Line b) (hla : a.length ≤ 1000000) (hlb : b.length ≤ 1000000) (h : CombP rAnd a b i k ins fm out) (hne : i < 2 * a.length ∨ k < 2 * b.length) :
    ∃ (i' k' : Nat) (ins' : Bool) (fm' : Int) (out' : List Sp), m_runs_combine_2_L1 std a b ((i : Int), (k : Int), ins, fm, out) = some (.inl ((i' : Int), (k' : Int), ins', fm', out')) ∧ CombP rAnd a b i' k' ins' fm' out' ∧ i + k < i' + k' := by
  have hi := h.c.hi
  have hk := h.c.hk
  obtain ⟨t, ht⟩ : ∃ t, mi (endA a i) (endA b k) = t := ⟨_, rfl⟩
  have hm := mi_le (endA a i) (endA b k)
  rw [ht] at hm
  have hA : endA a i = if i < 2 * a.length then endL a i else 8796093022208 := rfl
  have hB : endA b k = if k < 2 * b.length then endL b k else 8796093022208 := rfl
  have bA : i < 2 * a.length → endL a i ≤ 4398046511104 := fun h => (endL_line la ha h).2
  have bB' : k < 2 * b.length → endL b k ≤ 4398046511104 := fun h => (endL_line lb hb h).2
  obtain ⟨i', hi'⟩ : ∃ i', nxI a i t = i' := ⟨_, rfl⟩
  obtain ⟨k', hk'⟩ : ∃ k', nxI b k t = k' := ⟨_, rfl⟩
  have u1 : i < 2 * a.length ∧ t = endL a i ∨ k < 2 * b.length ∧ t = endL b k := by
    by_cases c1 : i < 2 * a.length
    · have := bA c1
      rw [if_pos c1] at hA
      by_cases c2 : k < 2 * b.length
      · rw [if_pos c2] at hB
        rcases hm.2.2 with e | e
        · exact .inl ⟨c1, by omega⟩
        · exact .inr ⟨c2, by omega⟩
      · rw [if_neg c2] at hB
        exact .inl ⟨c1, by omega⟩
    · have c2 : k < 2 * b.length := by omega
      have := bB' c2
      rw [if_neg c1] at hA
      rw [if_pos c2] at hB
      exact .inr ⟨c2, by omega⟩
  have u2 : i < 2 * a.length → t ≤ endL a i := fun c => by rw [if_pos c] at hA; omega
  have u3 : k < 2 * b.length → t ≤ endL b k := fun c => by rw [if_pos c] at hB; omega
  have tl : t ≤ 4398046511104 := by
    rcases u1 with ⟨c, e⟩ | ⟨c, e⟩
    · have := bA c; omega
    · have := bB' c; omega
  obtain ⟨s2, s3, s4, s5⟩ := h.step ha hb u1 u2 u3 hi' hk'
  refine ⟨i', k', _, _, _, ?_, s5, s2⟩
  have ni : (Option.bind (bif (endA a i == t) then grd (okI .i64 ((i : Int) + 1)) <| some ((i : Int) + 1) else some (i : Int) : Option Int) fun z => some z) = some (i' : Int) := by
    rw [← hi']
    unfold nxI
    by_cases c : i < 2 * a.length ∧ endL a i = t
    · rw [if_pos c]
      exact bB (v := ((i + 1 : Nat) : Int)) (bT (eT (by rw [hA, if_pos c.1]; exact c.2)) (gI (by omega) rfl)) rfl
    · rw [if_neg c]
      refine bB (v := (i : Int)) (bF (eF fun e => ?_) rfl) rfl
      by_cases c1 : i < 2 * a.length
      · rw [hA, if_pos c1] at e; exact c ⟨c1, e⟩
      · rw [hA, if_neg c1] at e; omega
  have nk : (Option.bind (bif (endA b k == t) then grd (okI .i64 ((k : Int) + 1)) <| some ((k : Int) + 1) else some (k : Int) : Option Int) fun z => some z) = some (k' : Int) := by
    rw [← hk']
    unfold nxI
    by_cases c : k < 2 * b.length ∧ endL b k = t
    · rw [if_pos c]
      exact bB (v := ((k + 1 : Nat) : Int)) (bT (eT (by rw [hB, if_pos c.1]; exact c.2)) (gI (by omega) rfl)) rfl
    · rw [if_neg c]
      refine bB (v := (k : Int)) (bF (eF fun e => ?_) rfl) rfl
      by_cases c1 : k < 2 * b.length
      · rw [hB, if_pos c1] at e; exact c ⟨c1, e⟩
      · rw [hB, if_neg c1] at e; omega
  have ni' := ni
  have nk' := nk
  simp only [Option.bind_some, Option.bind_fun_some] at ni' nk'
  rw [m_runs_combine_2_L1_eq, p_end a (by omega) i hi, p_end b (by omega) k hk]
  have c0 : (Option.bind (bif (decide ((i : Int) < (2 * (((List.length a) : Nat) : Int)))) then grd (okI .i64 ((2 * (((List.length a) : Nat) : Int)))) <| (some true) else grd (okI .i64 ((2 * (((List.length a) : Nat) : Int)))) <| grd (okI .i64 ((2 * (((List.length b) : Nat) : Int)))) <| (some (decide ((k : Int) < (2 * (((List.length b) : Nat) : Int))))) : Option Bool) fun z => some z) = some true := by
    by_cases c : i < 2 * a.length
    · exact bB (v := true) (bT (dT (by omega)) (gI (by omega) rfl)) rfl
    · exact bB (v := true) (bF (dF (by omega)) (gI (by omega) (gI (by omega) (congrArg some (dT (by omega)))))) rfl
  simp only [Option.bind_fun_some] at c0
  refine bB c0 (bT rfl (bB rfl (bB rfl (bB rfl ?_))))
  rw [ht]
  refine bB ni' (bB rfl (bB nk' (gZ (by omega) ?_)))
  rw [odd_eq, odd_eq]
  refine bB (p_Meet_1 _ _) ?_
  by_cases hq : rAnd (oddB i') (oddB k') = ins
  · rw [hq]
    simp only [if_true]
    exact bT (by simp) rfl
  · rw [if_neg hq, if_neg hq]
    refine bF (by simpa using hq) ?_
    have hl := h.len
    cases hins : ins with
    | true => exact bB (v := out ++ [(fm, t)]) (bT rfl (gR (by omega) (gR (by simp) rfl))) rfl
    | false => exact bB (v := out) (bF rfl rfl) rfl
theorem p_runs_combine_2 {a b : List Sp} (ha : Can a) (hb : Can b) (la : Line a) (lb : Line b) (hla : a.length ≤ 1000) (hlb : b.length ≤ 1000) :
    ∃ r, m_runs_combine_2 std a b = some (r, 0) ∧ Can r ∧ (∀ x, Mem r x ↔ R2 rAnd a b x = true) ∧ r.length ≤ a.length + b.length := by
  have h := loop_is (B := m_runs_combine_2_L1 std a b) (y := (0, 0, false, 0, ([] : List Sp))) (fun y => ∃ i k : Nat, y.1 = (i : Int) ∧ y.2.1 = (k : Int) ∧ CombP rAnd a b i k y.2.2.1 y.2.2.2.1 y.2.2.2.2)
    (fun y => 2 * a.length + 2 * b.length - (y.1.toNat + y.2.1.toNat)) (fun r => Can r ∧ (∀ x, Mem r x ↔ R2 rAnd a b x = true) ∧ r.length ≤ a.length + b.length)
    ⟨0, 0, rfl, rfl, CombI.init rfl ha hb, rfl, by simp⟩ (by show _ - _ < _; omega) (by
      rintro ⟨x, z, ins, fm, out⟩ ⟨i, k, h1, h2, hc⟩
      change x = (i : Int) at h1
      change z = (k : Int) at h2
      change CombP rAnd a b i k ins fm out at hc
      subst h1; subst h2
      have hi := hc.c.hi
      have hk := hc.c.hk
      by_cases hne : i < 2 * a.length ∨ k < 2 * b.length
      · obtain ⟨i', k', ins', fm', out', e, c1, c2⟩ := p_runs_combine_2_L1 ha hb la lb (by omega) (by omega) hc hne
        refine ⟨_, e, ⟨i', k', rfl, rfl, c1⟩, ?_⟩
        have := c1.c.hi
        have := c1.c.hk
        show 2 * a.length + 2 * b.length - ((i' : Int).toNat + (k' : Int).toNat) < 2 * a.length + 2 * b.length - ((i : Int).toNat + (k : Int).toNat)
        simp only [Int.toNat_natCast]
        omega
      · have e1 : i = 2 * a.length := by omega
        have e2 : k = 2 * b.length := by omega
        refine ⟨.inr out, ?_, ?_⟩
        · rw [m_runs_combine_2_L1_eq]
          exact bB (v := false) (bF (dF (by omega)) (gI (by omega) (gI (by omega) (congrArg some (dF (by omega)))))) (bF rfl rfl)
        · subst e1; subst e2
          have hins : ins = false := by
            rw [hc.iq]
            have e3 : ∀ n, oddB (2 * n) = false := fun n => by unfold oddB; rw [Nat.mul_mod_right]; rfl
            rw [e3, e3]; rfl
          have hcc := hc.c
          rw [hins] at hcc
          obtain ⟨d1, d2⟩ := CombI.done ha hb rfl hcc
          have hl := hc.len
          have hlen' : out.length ≤ a.length + b.length := by omega
          exact ⟨d1, d2, hlen'⟩)
  obtain ⟨r, e, h1, h2, h3⟩ := h
  refine ⟨r, ?_, h1, h2, h3⟩
  have hv : ∀ {l : List Sp}, Can l → Line l → l.length ≤ 1000 → m_runs_Valid std l = some true := fun {l} hc hl hn => by
    rw [p_runs_Valid', dT (by omega), canB_iff.2 ⟨hc, hl⟩]; rfl
  rw [m_runs_combine_2_eq]
  refine bB (v := false) (bB (hv ha la hla) (bF rfl (bB (hv hb lb hlb) rfl))) (bF rfl (bB e ?_))
  have hd := p_runs_done r
  rw [if_pos (by omega)] at hd
  exact bB (bB hd rfl) rfl
theorem p_runs_combine_3_L1 {a b out : List Sp} {i k : Nat} {ins : Bool} {fm : Int} (ha : Can a) (hb : Can b) (la : Line a) (lb : Line b) (hla : a.length ≤ 1000000) (hlb : b.length ≤ 1000000) (h : CombP rSub a b i k ins fm out) (hne : i < 2 * a.length ∨ k < 2 * b.length) :
    ∃ (i' k' : Nat) (ins' : Bool) (fm' : Int) (out' : List Sp), m_runs_combine_3_L1 std a b ((i : Int), (k : Int), ins, fm, out) = some (.inl ((i' : Int), (k' : Int), ins', fm', out')) ∧ CombP rSub a b i' k' ins' fm' out' ∧ i + k < i' + k' := by
  have hi := h.c.hi
  have hk := h.c.hk
  obtain ⟨t, ht⟩ : ∃ t, mi (endA a i) (endA b k) = t := ⟨_, rfl⟩
  have hm := mi_le (endA a i) (endA b k)
  rw [ht] at hm
  have hA : endA a i = if i < 2 * a.length then endL a i else 8796093022208 := rfl
  have hB : endA b k = if k < 2 * b.length then endL b k else 8796093022208 := rfl
  have bA : i < 2 * a.length → endL a i ≤ 4398046511104 := fun h => (endL_line la ha h).2
  have bB' : k < 2 * b.length → endL b k ≤ 4398046511104 := fun h => (endL_line lb hb h).2
  obtain ⟨i', hi'⟩ : ∃ i', nxI a i t = i' := ⟨_, rfl⟩
  obtain ⟨k', hk'⟩ : ∃ k', nxI b k t = k' := ⟨_, rfl⟩
  have u1 : i < 2 * a.length ∧ t = endL a i ∨ k < 2 * b.length ∧ t = endL b k := by
    by_cases c1 : i < 2 * a.length
    · have := bA c1
      rw [if_pos c1] at hA
      by_cases c2 : k < 2 * b.length
      · rw [if_pos c2] at hB
        rcases hm.2.2 with e | e
        · exact .inl ⟨c1, by omega⟩
        · exact .inr ⟨c2, by omega⟩
      · rw [if_neg c2] at hB
        exact .inl ⟨c1, by omega⟩
    · have c2 : k < 2 * b.length := by omega
      have := bB' c2
      rw [if_neg c1] at hA
      rw [if_pos c2] at hB
      exact .inr ⟨c2, by omega⟩
  have u2 : i < 2 * a.length → t ≤ endL a i := fun c => by rw [if_pos c] at hA; omega
  have u3 : k < 2 * b.length → t ≤ endL b k := fun c => by rw [if_pos c] at hB; omega
  have tl : t ≤ 4398046511104 := by
    rcases u1 with ⟨c, e⟩ | ⟨c, e⟩
    · have := bA c; omega
    · have := bB' c; omega
  obtain ⟨s2, s3, s4, s5⟩ := h.step ha hb u1 u2 u3 hi' hk'
  refine ⟨i', k', _, _, _, ?_, s5, s2⟩
  have ni : (Option.bind (bif (endA a i == t) then grd (okI .i64 ((i : Int) + 1)) <| some ((i : Int) + 1) else some (i : Int) : Option Int) fun z => some z) = some (i' : Int) := by
    rw [← hi']
    unfold nxI
    by_cases c : i < 2 * a.length ∧ endL a i = t
    · rw [if_pos c]
      exact bB (v := ((i + 1 : Nat) : Int)) (bT (eT (by rw [hA, if_pos c.1]; exact c.2)) (gI (by omega) rfl)) rfl
    · rw [if_neg c]
      refine bB (v := (i : Int)) (bF (eF fun e => ?_) rfl) rfl
      by_cases c1 : i < 2 * a.length
      · rw [hA, if_pos c1] at e; exact c ⟨c1, e⟩
      · rw [hA, if_neg c1] at e; omega
  have nk : (Option.bind (bif (endA b k == t) then grd (okI .i64 ((k : Int) + 1)) <| some ((k : Int) + 1) else some (k : Int) : Option Int) fun z => some z) = some (k' : Int) := by
    rw [← hk']
    unfold nxI
    by_cases c : k < 2 * b.length ∧ endL b k = t
    · rw [if_pos c]
      exact bB (v := ((k + 1 : Nat) : Int)) (bT (eT (by rw [hB, if_pos c.1]; exact c.2)) (gI (by omega) rfl)) rfl
    · rw [if_neg c]
      refine bB (v := (k : Int)) (bF (eF fun e => ?_) rfl) rfl
      by_cases c1 : k < 2 * b.length
      · rw [hB, if_pos c1] at e; exact c ⟨c1, e⟩
      · rw [hB, if_neg c1] at e; omega
  have ni' := ni
  have nk' := nk
  simp only [Option.bind_some, Option.bind_fun_some] at ni' nk'
  rw [m_runs_combine_3_L1_eq, p_end a (by omega) i hi, p_end b (by omega) k hk]
  have c0 : (Option.bind (bif (decide ((i : Int) < (2 * (((List.length a) : Nat) : Int)))) then grd (okI .i64 ((2 * (((List.length a) : Nat) : Int)))) <| (some true) else grd (okI .i64 ((2 * (((List.length a) : Nat) : Int)))) <| grd (okI .i64 ((2 * (((List.length b) : Nat) : Int)))) <| (some (decide ((k : Int) < (2 * (((List.length b) : Nat) : Int))))) : Option Bool) fun z => some z) = some true := by
    by_cases c : i < 2 * a.length
    · exact bB (v := true) (bT (dT (by omega)) (gI (by omega) rfl)) rfl
    · exact bB (v := true) (bF (dF (by omega)) (gI (by omega) (gI (by omega) (congrArg some (dT (by omega)))))) rfl
  simp only [Option.bind_fun_some] at c0
  refine bB c0 (bT rfl (bB rfl (bB rfl (bB rfl ?_))))
  rw [ht]
  refine bB ni' (bB rfl (bB nk' (gZ (by omega) ?_)))
  rw [odd_eq, odd_eq]
  refine bB (p_Minus_1 _ _) ?_
  by_cases hq : rSub (oddB i') (oddB k') = ins
  · rw [hq]
    simp only [if_true]
    exact bT (by simp) rfl
  · rw [if_neg hq, if_neg hq]
    refine bF (by simpa using hq) ?_
    have hl := h.len
    cases hins : ins with
    | true => exact bB (v := out ++ [(fm, t)]) (bT rfl (gR (by omega) (gR (by simp) rfl))) rfl
    | false => exact bB (v := out) (bF rfl rfl) rfl
theorem p_runs_combine_3 {a b : List Sp} (ha : Can a) (hb : Can b) (la : Line a) (lb : Line b) (hla : a.length ≤ 1000) (hlb : b.length ≤ 1000) :
    ∃ r, m_runs_combine_3 std a b = some (r, 0) ∧ Can r ∧ (∀ x, Mem r x ↔ R2 rSub a b x = true) ∧ r.length ≤ a.length + b.length := by
  have h := loop_is (B := m_runs_combine_3_L1 std a b) (y := (0, 0, false, 0, ([] : List Sp))) (fun y => ∃ i k : Nat, y.1 = (i : Int) ∧ y.2.1 = (k : Int) ∧ CombP rSub a b i k y.2.2.1 y.2.2.2.1 y.2.2.2.2)
    (fun y => 2 * a.length + 2 * b.length - (y.1.toNat + y.2.1.toNat)) (fun r => Can r ∧ (∀ x, Mem r x ↔ R2 rSub a b x = true) ∧ r.length ≤ a.length + b.length)
    ⟨0, 0, rfl, rfl, CombI.init rfl ha hb, rfl, by simp⟩ (by show _ - _ < _; omega) (by
      rintro ⟨x, z, ins, fm, out⟩ ⟨i, k, h1, h2, hc⟩
      change x = (i : Int) at h1
      change z = (k : Int) at h2
      change CombP rSub a b i k ins fm out at hc
      subst h1; subst h2
      have hi := hc.c.hi
      have hk := hc.c.hk
      by_cases hne : i < 2 * a.length ∨ k < 2 * b.length
      · obtain ⟨i', k', ins', fm', out', e, c1, c2⟩ := p_runs_combine_3_L1 ha hb la lb (by omega) (by omega) hc hne
        refine ⟨_, e, ⟨i', k', rfl, rfl, c1⟩, ?_⟩
        have := c1.c.hi
        have := c1.c.hk
        show 2 * a.length + 2 * b.length - ((i' : Int).toNat + (k' : Int).toNat) < 2 * a.length + 2 * b.length - ((i : Int).toNat + (k : Int).toNat)
        simp only [Int.toNat_natCast]
        omega
      · have e1 : i = 2 * a.length := by omega
        have e2 : k = 2 * b.length := by omega
        refine ⟨.inr out, ?_, ?_⟩
        · rw [m_runs_combine_3_L1_eq]
          exact bB (v := false) (bF (dF (by omega)) (gI (by omega) (gI (by omega) (congrArg some (dF (by omega)))))) (bF rfl rfl)
        · subst e1; subst e2
          have hins : ins = false := by
            rw [hc.iq]
            have e3 : ∀ n, oddB (2 * n) = false := fun n => by unfold oddB; rw [Nat.mul_mod_right]; rfl
            rw [e3, e3]; rfl
          have hcc := hc.c
          rw [hins] at hcc
          obtain ⟨d1, d2⟩ := CombI.done ha hb rfl hcc
          have hl := hc.len
          have hlen' : out.length ≤ a.length + b.length := by omega
          exact ⟨d1, d2, hlen'⟩)
  obtain ⟨r, e, h1, h2, h3⟩ := h
  refine ⟨r, ?_, h1, h2, h3⟩
  have hv : ∀ {l : List Sp}, Can l → Line l → l.length ≤ 1000 → m_runs_Valid std l = some true := fun {l} hc hl hn => by
    rw [p_runs_Valid', dT (by omega), canB_iff.2 ⟨hc, hl⟩]; rfl
  rw [m_runs_combine_3_eq]
  refine bB (v := false) (bB (hv ha la hla) (bF rfl (bB (hv hb lb hlb) rfl))) (bF rfl (bB e ?_))
  have hd := p_runs_done r
  rw [if_pos (by omega)] at hd
  exact bB (bB hd rfl) rfl
end
section
def tsB (a b : Int) : Bool := decide (-62135596800 ≤ a ∧ a < b ∧ b ≤ 253402300800)
def vrB (r : Rc) : Bool := tsB r.1 r.2.1 && tsB r.2.2.1 r.2.2.2
def lvB (l : List Rc) : Bool := l.all vrB
theorem lvB_iff {l : List Rc} : lvB l = true ↔ ∀ r ∈ l, (-62135596800 ≤ r.1 ∧ r.1 < r.2.1 ∧ r.2.1 ≤ 253402300800) ∧ -62135596800 ≤ r.2.2.1 ∧ r.2.2.1 < r.2.2.2 ∧ r.2.2.2 ≤ 253402300800 := by
  unfold lvB
  rw [List.all_eq_true]
  constructor
  · intro h r hr
    have := h r hr
    unfold vrB tsB at this
    rw [Bool.and_eq_true, decide_eq_true_eq, decide_eq_true_eq] at this
    exact this
  · intro h r hr
    unfold vrB tsB
    rw [Bool.and_eq_true, decide_eq_true_eq, decide_eq_true_eq]
    exact h r hr
theorem p_rectangle_isSpan (a b : Int) : m_rectangle_isSpan std a b = some (tsB a b) := by
  rw [m_rectangle_isSpan_eq]
  unfold tsB
  by_cases h1 : -62135596800 ≤ a
  · by_cases h2 : a < b
    · refine bB (v := decide (b ≤ 253402300800)) (bT (dT h1) (bT (dT h2) rfl)) ?_
      congr 1
      rw [decide_eq_decide]; omega
    · refine bB (v := false) (bT (dT h1) (bF (dF h2) rfl)) ?_
      congr 1
      exact (dF (by omega)).symm
  · refine bB (v := false) (bF (dF h1) rfl) ?_
    congr 1
    exact (dF (by omega)).symm
theorem p_rectangle_Valid (r : Rc) : m_rectangle_Valid std r.1 r.2.1 r.2.2.1 r.2.2.2 = some (vrB r) := by
  rw [m_rectangle_Valid_eq, p_rectangle_isSpan, p_rectangle_isSpan]
  unfold vrB
  cases h1 : tsB r.1 r.2.1 with
  | false => rfl
  | true => exact bB (v := tsB r.2.2.1 r.2.2.2) (bB rfl (bT rfl (bB rfl rfl))) rfl
theorem p_ref35_Span (a b : Int) : m_ref35_Span std a b = some (tsB a b) := by
  rw [m_ref35_Span_eq]
  unfold tsB
  by_cases h1 : -62135596800 ≤ a
  · by_cases h2 : a < b
    · refine bB (v := decide (b ≤ 253402300800)) (bT (dT h1) (bT (dT h2) rfl)) ?_
      congr 1
      rw [decide_eq_decide]; omega
    · refine bB (v := false) (bT (dT h1) (bF (dF h2) rfl)) ?_
      congr 1
      exact (dF (by omega)).symm
  · refine bB (v := false) (bF (dF h1) rfl) ?_
    congr 1
    exact (dF (by omega)).symm
theorem p_ref35_Valid (r : Rc) : m_ref35_Valid std r.1 r.2.1 r.2.2.1 r.2.2.2 = some (vrB r) := by
  rw [m_ref35_Valid_eq, p_ref35_Span, p_ref35_Span]
  unfold vrB
  cases h1 : tsB r.1 r.2.1 with
  | false => rfl
  | true => exact bB (v := tsB r.2.2.1 r.2.2.2) (bB rfl (bT rfl (bB rfl rfl))) rfl
theorem p_rect_bad (l : List Rc) (hl : l.length ≤ 1099511627776) : m_slices_ContainsFunc std l = some (!lvB l) := by
  rw [m_slices_ContainsFunc_eq, m_slices_IndexFunc_eq]
  refine p_index (d := ((0, 0, 0, 0) : Rc)) hl (fun i hi => ?_) (by rw [m_slices_IndexFunc_L1_eq]; exact bF (dF (by omega)) rfl)
  rw [m_slices_IndexFunc_L1_eq, m_rectangle_check_1_eq]
  simp only [Int.toNat_natCast]
  rw [p_rectangle_Valid]
  refine bT (dT (by omega)) (gX (by omega) (gK hi (bB rfl ?_)))
  cases vrB (List.getD l i (0, 0, 0, 0)) with
  | true => exact gI (by omega) rfl
  | false => rfl
/-- the error of two lists -/
def chk2 (a b : List Rc) : Int := if lvB a && lvB b then (if a.length ≤ 500 ∧ b.length ≤ 500 then 0 else 5) else 1
theorem p_check (a b : List Rc) (ha : a.length ≤ 1000000) (hb : b.length ≤ 1000000) : m_rectangle_check std a b = some (chk2 a b) := by
  rw [m_rectangle_check_eq, p_rect_bad a (by omega), p_rect_bad b (by omega)]
  unfold chk2
  cases h1 : lvB a with
  | false => exact bB rfl (bT rfl rfl)
  | true =>
    refine bB rfl (bF rfl (gI (by omega) ?_))
    cases h2 : lvB b with
    | false => exact bB rfl (bT rfl rfl)
    | true =>
      refine bB rfl (bF rfl (gI (by omega) ?_))
      simp only [Bool.and_self, if_true]
      by_cases h3 : a.length ≤ 500
      · refine bF (dF (by omega)) ?_
        by_cases h4 : b.length ≤ 500
        · rw [if_pos ⟨h3, h4⟩]; exact bF (dF (by omega)) rfl
        · rw [if_neg (fun h => h4 h.2)]; exact bT (dT (by omega)) rfl
      · rw [if_neg (fun h => h3 h.1)]; exact bT (dT (by omega)) rfl
theorem p_Concat (a b : List Rc) (ha : a.length ≤ 1000000) (hb : b.length ≤ 1000000) : m_slices_Concat std a b = some (a ++ b) := by
  rw [m_slices_Concat_eq]
  refine gI (by omega) (bF (dF (by omega)) (gI (by omega) (gI (by omega) (bF (dF (by omega)) (gI (by omega) (bB (v := []) ?_ ?_))))))
  · rw [m_grow_i4_eq, dT (by omega)]; rfl
  · exact gR (by simp) (gR (by omega) (gR (by simp; omega) (gR (by omega) rfl)))

/-! the valid times at a transaction time -/
def inT (t : Int) (r : Rc) : Bool := decide (r.2.2.1 ≤ t) && decide (t < r.2.2.2)
def atL (l : List Rc) (t : Int) : List Sp := (l.filter (inT t)).map fun r => (r.1, r.2.1)
theorem atL_len (l : List Rc) (t : Int) : (atL l t).length ≤ l.length := by unfold atL; rw [List.length_map]; exact List.length_filter_le _ _
theorem atL_mem {l : List Rc} {t : Int} {s : Sp} : s ∈ atL l t ↔ ∃ r ∈ l, (r.2.2.1 ≤ t ∧ t < r.2.2.2) ∧ (r.1, r.2.1) = s := by
  simp only [atL, List.mem_map, List.mem_filter, inT, Bool.and_eq_true, decide_eq_true_eq]
  constructor
  · rintro ⟨r, ⟨h1, h2⟩, h3⟩; exact ⟨r, h1, h2, h3⟩
  · rintro ⟨r, h1, h2, h3⟩; exact ⟨r, ⟨h1, h2⟩, h3⟩
theorem atL_Mem {l : List Rc} {t x : Int} : Mem (atL l t) x ↔ inL l x t = true := by
  unfold inL inR
  rw [List.any_eq_true]
  constructor
  · rintro ⟨s, hs, h1, h2⟩
    obtain ⟨r, hr, h3, rfl⟩ := atL_mem.1 hs
    exact ⟨r, hr, by simp only at h1 h2; simp [h1, h2, h3.1, h3.2]⟩
  · rintro ⟨r, hr, h⟩
    simp only [Bool.and_eq_true, decide_eq_true_eq] at h
    exact ⟨(r.1, r.2.1), atL_mem.2 ⟨r, hr, ⟨h.1.2, h.2⟩, rfl⟩, h.1.1.1, h.1.1.2⟩
theorem atL_take {l : List Rc} {t : Int} {i : Nat} (hi : i < l.length) : atL (l.take (i + 1)) t = atL (l.take i) t ++ (if inT t (l.getD i (0, 0, 0, 0)) = true then [((l.getD i (0, 0, 0, 0)).1, (l.getD i (0, 0, 0, 0)).2.1)] else []) := by
  have e : l.getD i (0, 0, 0, 0) = l[i] := by rw [List.getD_eq_getElem?_getD, List.getElem?_eq_getElem hi]; rfl
  rw [List.take_succ_eq_append_getElem hi, e]
  unfold atL
  rw [List.filter_append, List.map_append]
  congr 1
  by_cases h : inT t l[i] = true
  · rw [if_pos h]; simp [List.filter, h]
  · rw [if_neg h]; simp [List.filter, h]
theorem atL_sps {l : List Rc} (h : lvB l = true) (t : Int) : spsB (atL l t) = true := by
  rw [spsB_iff]
  intro s hs
  obtain ⟨r, hr, _, rfl⟩ := atL_mem.1 hs
  have := lvB_iff.1 h r hr
  show _ ≤ r.1 ∧ r.2.1 ≤ _ ∧ r.1 < r.2.1
  omega
/-- the same, canonical -/
def tS (l : List Rc) (t : Int) : List Sp := ofS (atL l t)
structure TimeL (l : List Sp) : Prop where
  can : Can l
  line : ∀ s ∈ l, -62135596800 ≤ s.1 ∧ s.2 ≤ 253402300800
theorem TimeL.onLine {l : List Sp} (h : TimeL l) : Line l := fun s hs => by have := h.line s hs; omega
theorem tS_mem {l : List Rc} (h : lvB l = true) (t x : Int) : Mem (tS l t) x ↔ inL l x t = true := ((ofS_ok (atL_sps h t)).2.1 x).trans atL_Mem
theorem tS_memB {l : List Rc} (h : lvB l = true) (t x : Int) : memB (tS l t) x = inL l x t := by
  rw [Bool.eq_iff_iff, memB_iff]; exact tS_mem h t x
theorem inL_bd {l : List Rc} (h : lvB l = true) {x t : Int} (hx : inL l x t = true) : (-62135596800 ≤ x ∧ x < 253402300800) ∧ -62135596800 ≤ t ∧ t < 253402300800 := by
  unfold inL inR at hx
  rw [List.any_eq_true] at hx
  obtain ⟨r, hr, h1⟩ := hx
  simp only [Bool.and_eq_true, decide_eq_true_eq] at h1
  have := lvB_iff.1 h r hr
  omega
theorem tS_time {l : List Rc} (h : lvB l = true) (t : Int) : TimeL (tS l t) :=
  ⟨(ofS_ok (atL_sps h t)).1, line_of (ofS_ok (atL_sps h t)).1 fun x hx => (inL_bd h ((tS_mem h t x).1 hx)).1⟩
theorem tS_len {l : List Rc} (h : lvB l = true) (t : Int) : (tS l t).length ≤ l.length := Nat.le_trans (ofS_ok (atL_sps h t)).2.2 (atL_len l t)
theorem p_times_L1 {l : List Rc} (hl : l.length ≤ 1000000) (t : Int) : loop (m_rectangle_times_L1 std l t) (0, ([] : List Sp)) = some (atL l t) := by
  have h := loop_up (B := m_rectangle_times_L1 std l t) (n := l.length) (fun i => atL (l.take i) t) (e := atL l t) (by omega) (fun i hi => by
    have hlen := atL_len (l.take i) t
    rw [List.length_take] at hlen
    rw [atL_take hi, m_rectangle_times_L1_eq]
    generalize atL (l.take i) t = acc at *
    simp only [Int.toNat_natCast]
    refine bT (dT (by omega)) (gX (by omega) (gK hi ?_))
    unfold inT
    obtain ⟨r, hr⟩ : ∃ r, List.getD l i (0, 0, 0, 0) = r := ⟨_, rfl⟩
    simp only [hr]
    by_cases h1 : r.2.2.1 ≤ t
    · by_cases h2 : t < r.2.2.2
      · rw [dT h1, dT h2]
        exact bB (v := true) (bT rfl rfl) (bB (v := acc ++ [(r.1, r.2.1)]) (bT rfl (gR (by omega) (gR (by simp) rfl))) (gI (by omega) rfl))
      · rw [dT h1, dF h2]
        exact bB (v := false) (bT rfl rfl) (bB (v := acc) (bF rfl rfl) (gI (by omega) (by simp)))
    · rw [dF h1]
      exact bB (v := false) (bF rfl rfl) (bB (v := acc) (bF rfl rfl) (gI (by omega) (by simp)))) (by
    rw [m_rectangle_times_L1_eq]
    refine bF (dF (by omega)) ?_
    show some (Sum.inr (atL (l.take l.length) t)) = _
    rw [List.take_length])
  exact h
theorem p_times {l : List Rc} (h : lvB l = true) (hl : l.length ≤ 2000) (t : Int) : m_rectangle_times std t l = some (tS l t) := by
  have h1 := tS_len h t
  have h2 := atL_len l t
  rw [m_rectangle_times_eq, p_times_L1 (by omega), Option.bind_some, p_runs_Of (by omega), if_pos (atL_sps h t)]
  have : (ofS (atL l t)).length ≤ 2000 := by show (tS l t).length ≤ 2000; omega
  rw [if_pos this]; rfl

/-! what is in lists by a rule -/
noncomputable def opS (rule : Bool → Bool → Bool) (a b : List Sp) : List Sp :=
  @dite _ (∃ r, Can r ∧ ∀ x, Mem r x ↔ R2 rule a b x = true) (Classical.propDecidable _) (fun h => Classical.choose h) (fun _ => [])
theorem opS_eq {rule : Bool → Bool → Bool} {a b r : List Sp} (h1 : Can r) (h2 : ∀ x, Mem r x ↔ R2 rule a b x = true) : opS rule a b = r := by
  have h : ∃ r, Can r ∧ ∀ x, Mem r x ↔ R2 rule a b x = true := ⟨r, h1, h2⟩
  unfold opS
  rw [dif_pos h]
  exact can_unique (Classical.choose_spec h).1 h1 fun x => ((Classical.choose_spec h).2 x).trans (h2 x).symm
structure OpOk (rule : Bool → Bool → Bool) (a b r : List Sp) : Prop where
  can : Can r
  mem : ∀ x, memB r x = rule (memB a x) (memB b x)
  len : r.length ≤ a.length + b.length
theorem p_runs_Union {a b : List Sp} (ha : TimeL a) (hb : TimeL b) (hla : a.length ≤ 1000) (hlb : b.length ≤ 1000) : m_runs_Union std a b = some (opS rOr a b, 0) ∧ OpOk rOr a b (opS rOr a b) := by
  obtain ⟨r, e, h1, h2, h3⟩ := p_runs_combine ha.can hb.can ha.onLine hb.onLine hla hlb
  rw [opS_eq h1 h2]
  refine ⟨by rw [m_runs_Union_eq]; exact bB e rfl, h1, fun x => ?_, h3⟩
  rw [Bool.eq_iff_iff, memB_iff]
  exact h2 x
theorem p_runs_Meet {a b : List Sp} (ha : TimeL a) (hb : TimeL b) (hla : a.length ≤ 1000) (hlb : b.length ≤ 1000) : m_runs_Meet std a b = some (opS rAnd a b, 0) ∧ OpOk rAnd a b (opS rAnd a b) := by
  obtain ⟨r, e, h1, h2, h3⟩ := p_runs_combine_2 ha.can hb.can ha.onLine hb.onLine hla hlb
  rw [opS_eq h1 h2]
  refine ⟨by rw [m_runs_Meet_eq]; exact bB e rfl, h1, fun x => ?_, h3⟩
  rw [Bool.eq_iff_iff, memB_iff]
  exact h2 x
theorem p_runs_Minus {a b : List Sp} (ha : TimeL a) (hb : TimeL b) (hla : a.length ≤ 1000) (hlb : b.length ≤ 1000) : m_runs_Minus std a b = some (opS rSub a b, 0) ∧ OpOk rSub a b (opS rSub a b) := by
  obtain ⟨r, e, h1, h2, h3⟩ := p_runs_combine_3 ha.can hb.can ha.onLine hb.onLine hla hlb
  rw [opS_eq h1 h2]
  refine ⟨by rw [m_runs_Minus_eq]; exact bB e rfl, h1, fun x => ?_, h3⟩
  rw [Bool.eq_iff_iff, memB_iff]
  exact h2 x

/-! ends -/
def txE (l : List Rc) : List Int := l.flatMap fun r => [r.2.2.1, r.2.2.2]
theorem txE_len (l : List Rc) : (txE l).length = 2 * l.length := by
  unfold txE
  induction l with
  | nil => rfl
  | cons r l ih => rw [List.flatMap_cons, List.length_append, ih]; simp; omega
theorem txE_take {l : List Rc} {i : Nat} (hi : i < l.length) : txE (l.take (i + 1)) = txE (l.take i) ++ [(l.getD i (0, 0, 0, 0)).2.2.1, (l.getD i (0, 0, 0, 0)).2.2.2] := by
  have e : l.getD i (0, 0, 0, 0) = l[i] := by rw [List.getD_eq_getElem?_getD, List.getElem?_eq_getElem hi]; rfl
  rw [List.take_succ_eq_append_getElem hi, e]
  unfold txE
  rw [List.flatMap_append]; simp
def endS (l : List Rc) : List Int := Lib.compact (sortI (txE l))
theorem endS_ok (l : List Rc) : (endS l).Pairwise (· < ·) ∧ (∀ x, x ∈ endS l ↔ x ∈ txE l) ∧ (endS l).length ≤ 2 * l.length := by
  obtain ⟨h1, h2⟩ := compI_ok (sortI_sorted (txE l))
  refine ⟨h1, fun x => (h2 x).trans (sortI_perm _).mem_iff, ?_⟩
  have h3 : (endS l).length ≤ (sortI (txE l)).length := compI_len _
  rw [sortI_len, txE_len] at h3
  exact h3
def eAt (es : List Int) (i : Nat) : Int := es.getD i 0
theorem eAt_lt {es : List Int} (h : es.Pairwise (· < ·)) : ∀ i, i < es.length - 1 → eAt es i < eAt es (i + 1) := fun i hi => by
  have := List.pairwise_iff_getElem.1 h i (i + 1) (by omega) (by omega) (by omega)
  unfold eAt
  rw [List.getD_eq_getElem?_getD, List.getD_eq_getElem?_getD, List.getElem?_eq_getElem (by omega : i < es.length), List.getElem?_eq_getElem (by omega : i + 1 < es.length)]
  exact this
theorem p_rectangle_combine_L2 {l6 : List Int} {i : Nat} (hi : i + 1 < l6.length) (u v : List Rc) (hu : u.length ≤ 1000000) (hv : v.length ≤ 1000000) :
    loop (m_rectangle_combine_L2 std (i : Int) l6) ((u.length : Int), u ++ v) = some (u ++ v.map fun r => (r.1, r.2.1, r.2.2.1, eAt l6 (i + 1))) := by
  have h := loop_to' (B := m_rectangle_combine_L2 std (i : Int) l6) (n := v.length) (fun j => (((u.length + j : Nat) : Int), u ++ ((v.take j).map (fun r => (r.1, r.2.1, r.2.2.1, eAt l6 (i + 1)))) ++ v.drop j)) (e := u ++ v.map fun r => (r.1, r.2.1, r.2.2.1, eAt l6 (i + 1))) (by omega) (fun j hj => by
    rw [m_rectangle_combine_L2_eq]
    have e1 : (u ++ ((v.take j).map (fun r => (r.1, r.2.1, r.2.2.1, eAt l6 (i + 1)))) ++ v.drop j).length = u.length + v.length := by simp; omega
    have e2 : Int.toNat ((u.length + j : Nat) : Int) = u.length + j := by omega
    have e3 : Int.toNat ((i : Int) + 1) = i + 1 := by omega
    refine bT (dT (by rw [e1]; omega)) (gX (by omega) (gK (by omega) (gX (by rw [e1]; omega) (gK (by rw [e1]; omega) (gI (by omega) ?_)))))
    rw [e2, e3]
    have hx : (u ++ ((v.take j).map (fun r => (r.1, r.2.1, r.2.2.1, eAt l6 (i + 1)))) ++ v.drop j) = (u ++ ((v.take j).map (fun r => (r.1, r.2.1, r.2.2.1, eAt l6 (i + 1))))) ++ v[j] :: v.drop (j + 1) := by
      rw [List.drop_eq_getElem_cons hj]
    have hy : (u ++ ((v.take j).map (fun r => (r.1, r.2.1, r.2.2.1, eAt l6 (i + 1))))).length = u.length + j := by simp; omega
    rw [hx]
    have hg : List.getD ((u ++ ((v.take j).map (fun r => (r.1, r.2.1, r.2.2.1, eAt l6 (i + 1))))) ++ v[j] :: v.drop (j + 1)) (u.length + j) (0, 0, 0, 0) = v[j] := by
      rw [List.getD_eq_getElem?_getD, List.getElem?_append_right (by omega), hy, Nat.sub_self]; rfl
    rw [hg, List.set_append_right _ _ (by omega), hy, Nat.sub_self, List.set_cons_zero, List.take_succ_eq_append_getElem hj, List.map_append]
    show some (Sum.inl (_, _)) = some (Sum.inl (_, _))
    congr 2
    rw [Prod.mk.injEq]
    refine ⟨by omega, ?_⟩
    simp [eAt]) (by
    rw [m_rectangle_combine_L2_eq]
    refine bF (dF (by simp)) ?_
    simp)
  have e0 : (u ++ ((v.take 0).map (fun r => (r.1, r.2.1, r.2.2.1, eAt l6 (i + 1)))) ++ v.drop 0) = u ++ v := by simp
  simp only [Nat.add_zero, e0] at h
  exact h
theorem p_rectangle_combine_2_L2 {l6 : List Int} {i : Nat} (hi : i + 1 < l6.length) (u v : List Rc) (hu : u.length ≤ 1000000) (hv : v.length ≤ 1000000) :
    loop (m_rectangle_combine_2_L2 std (i : Int) l6) ((u.length : Int), u ++ v) = some (u ++ v.map fun r => (r.1, r.2.1, r.2.2.1, eAt l6 (i + 1))) := by
  have h := loop_to' (B := m_rectangle_combine_2_L2 std (i : Int) l6) (n := v.length) (fun j => (((u.length + j : Nat) : Int), u ++ ((v.take j).map (fun r => (r.1, r.2.1, r.2.2.1, eAt l6 (i + 1)))) ++ v.drop j)) (e := u ++ v.map fun r => (r.1, r.2.1, r.2.2.1, eAt l6 (i + 1))) (by omega) (fun j hj => by
    rw [m_rectangle_combine_2_L2_eq]
    have e1 : (u ++ ((v.take j).map (fun r => (r.1, r.2.1, r.2.2.1, eAt l6 (i + 1)))) ++ v.drop j).length = u.length + v.length := by simp; omega
    have e2 : Int.toNat ((u.length + j : Nat) : Int) = u.length + j := by omega
    have e3 : Int.toNat ((i : Int) + 1) = i + 1 := by omega
    refine bT (dT (by rw [e1]; omega)) (gX (by omega) (gK (by omega) (gX (by rw [e1]; omega) (gK (by rw [e1]; omega) (gI (by omega) ?_)))))
    rw [e2, e3]
    have hx : (u ++ ((v.take j).map (fun r => (r.1, r.2.1, r.2.2.1, eAt l6 (i + 1)))) ++ v.drop j) = (u ++ ((v.take j).map (fun r => (r.1, r.2.1, r.2.2.1, eAt l6 (i + 1))))) ++ v[j] :: v.drop (j + 1) := by
      rw [List.drop_eq_getElem_cons hj]
    have hy : (u ++ ((v.take j).map (fun r => (r.1, r.2.1, r.2.2.1, eAt l6 (i + 1))))).length = u.length + j := by simp; omega
    rw [hx]
    have hg : List.getD ((u ++ ((v.take j).map (fun r => (r.1, r.2.1, r.2.2.1, eAt l6 (i + 1))))) ++ v[j] :: v.drop (j + 1)) (u.length + j) (0, 0, 0, 0) = v[j] := by
      rw [List.getD_eq_getElem?_getD, List.getElem?_append_right (by omega), hy, Nat.sub_self]; rfl
    rw [hg, List.set_append_right _ _ (by omega), hy, Nat.sub_self, List.set_cons_zero, List.take_succ_eq_append_getElem hj, List.map_append]
    show some (Sum.inl (_, _)) = some (Sum.inl (_, _))
    congr 2
    rw [Prod.mk.injEq]
    refine ⟨by omega, ?_⟩
    simp [eAt]) (by
    rw [m_rectangle_combine_2_L2_eq]
    refine bF (dF (by simp)) ?_
    simp)
  have e0 : (u ++ ((v.take 0).map (fun r => (r.1, r.2.1, r.2.2.1, eAt l6 (i + 1)))) ++ v.drop 0) = u ++ v := by simp
  simp only [Nat.add_zero, e0] at h
  exact h
theorem p_rectangle_combine_3_L2 {l6 : List Int} {i : Nat} (hi : i + 1 < l6.length) (u v : List Rc) (hu : u.length ≤ 1000000) (hv : v.length ≤ 1000000) :
    loop (m_rectangle_combine_3_L2 std (i : Int) l6) ((u.length : Int), u ++ v) = some (u ++ v.map fun r => (r.1, r.2.1, r.2.2.1, eAt l6 (i + 1))) := by
  have h := loop_to' (B := m_rectangle_combine_3_L2 std (i : Int) l6) (n := v.length) (fun j => (((u.length + j : Nat) : Int), u ++ ((v.take j).map (fun r => (r.1, r.2.1, r.2.2.1, eAt l6 (i + 1)))) ++ v.drop j)) (e := u ++ v.map fun r => (r.1, r.2.1, r.2.2.1, eAt l6 (i + 1))) (by omega) (fun j hj => by
    rw [m_rectangle_combine_3_L2_eq]
    have e1 : (u ++ ((v.take j).map (fun r => (r.1, r.2.1, r.2.2.1, eAt l6 (i + 1)))) ++ v.drop j).length = u.length + v.length := by simp; omega
    have e2 : Int.toNat ((u.length + j : Nat) : Int) = u.length + j := by omega
    have e3 : Int.toNat ((i : Int) + 1) = i + 1 := by omega
    refine bT (dT (by rw [e1]; omega)) (gX (by omega) (gK (by omega) (gX (by rw [e1]; omega) (gK (by rw [e1]; omega) (gI (by omega) ?_)))))
    rw [e2, e3]
    have hx : (u ++ ((v.take j).map (fun r => (r.1, r.2.1, r.2.2.1, eAt l6 (i + 1)))) ++ v.drop j) = (u ++ ((v.take j).map (fun r => (r.1, r.2.1, r.2.2.1, eAt l6 (i + 1))))) ++ v[j] :: v.drop (j + 1) := by
      rw [List.drop_eq_getElem_cons hj]
    have hy : (u ++ ((v.take j).map (fun r => (r.1, r.2.1, r.2.2.1, eAt l6 (i + 1))))).length = u.length + j := by simp; omega
    rw [hx]
    have hg : List.getD ((u ++ ((v.take j).map (fun r => (r.1, r.2.1, r.2.2.1, eAt l6 (i + 1))))) ++ v[j] :: v.drop (j + 1)) (u.length + j) (0, 0, 0, 0) = v[j] := by
      rw [List.getD_eq_getElem?_getD, List.getElem?_append_right (by omega), hy, Nat.sub_self]; rfl
    rw [hg, List.set_append_right _ _ (by omega), hy, Nat.sub_self, List.set_cons_zero, List.take_succ_eq_append_getElem hj, List.map_append]
    show some (Sum.inl (_, _)) = some (Sum.inl (_, _))
    congr 2
    rw [Prod.mk.injEq]
    refine ⟨by omega, ?_⟩
    simp [eAt]) (by
    rw [m_rectangle_combine_3_L2_eq]
    refine bF (dF (by simp)) ?_
    simp)
  have e0 : (u ++ ((v.take 0).map (fun r => (r.1, r.2.1, r.2.2.1, eAt l6 (i + 1)))) ++ v.drop 0) = u ++ v := by simp
  simp only [Nat.add_zero, e0] at h
  exact h
theorem p_rectangle_combine_L3 {l6 : List Int} {i : Nat} (hi : i + 1 < l6.length) (v : List Sp) (u : List Rc) (hu : u.length ≤ 1000000) (hv : v.length ≤ 1000000) :
    loop (m_rectangle_combine_L3 std (i : Int) v l6) (0, u) = some (u ++ rcs (eAt l6 i, eAt l6 (i + 1), v)) := by
  have h := loop_up (B := m_rectangle_combine_L3 std (i : Int) v l6) (n := v.length) (fun j => u ++ rcs (eAt l6 i, eAt l6 (i + 1), v.take j)) (e := u ++ rcs (eAt l6 i, eAt l6 (i + 1), v)) (by omega) (fun j hj => by
    rw [m_rectangle_combine_L3_eq]
    have e1 : (u ++ rcs (eAt l6 i, eAt l6 (i + 1), v.take j)).length = u.length + j := by rw [List.length_append, rcs_len]; simp; omega
    have e3 : Int.toNat ((i : Int) + 1) = i + 1 := by omega
    simp only [Int.toNat_natCast, e3, Nat.sub_zero, List.drop_zero, List.take_length]
    refine bT (dT (by omega)) (gX (by omega) (gK hj (gG (by omega) (gG (by omega) (gX (by omega) (gK (by omega) (gR (by rw [e1]; omega) (gR (by simp) (gK (by simp) (gI (by omega) ?_))))))))))
    rw [List.take_succ_eq_append_getElem hj]
    have eg : List.getD v j (0, 0) = v[j] := by rw [List.getD_eq_getElem?_getD, List.getElem?_eq_getElem hj]; rfl
    have er : ∀ (a b : Int) (x : List Sp) (y : Sp), rcs (a, b, x ++ [y]) = rcs (a, b, x) ++ [(y.1, y.2, a, b)] := fun a b x y => by simp [rcs]
    rw [eg, er, ← List.append_assoc]
    rfl) (by
    rw [m_rectangle_combine_L3_eq]
    exact bF (dF (by omega)) (by rw [List.take_length]))
  have e0 : u ++ rcs (eAt l6 i, eAt l6 (i + 1), v.take 0) = u := by simp [rcs]
  rw [e0] at h
  exact h
theorem p_rectangle_combine_2_L3 {l6 : List Int} {i : Nat} (hi : i + 1 < l6.length) (v : List Sp) (u : List Rc) (hu : u.length ≤ 1000000) (hv : v.length ≤ 1000000) :
    loop (m_rectangle_combine_2_L3 std (i : Int) l6 v) (0, u) = some (u ++ rcs (eAt l6 i, eAt l6 (i + 1), v)) := by
  have h := loop_up (B := m_rectangle_combine_2_L3 std (i : Int) l6 v) (n := v.length) (fun j => u ++ rcs (eAt l6 i, eAt l6 (i + 1), v.take j)) (e := u ++ rcs (eAt l6 i, eAt l6 (i + 1), v)) (by omega) (fun j hj => by
    rw [m_rectangle_combine_2_L3_eq]
    have e1 : (u ++ rcs (eAt l6 i, eAt l6 (i + 1), v.take j)).length = u.length + j := by rw [List.length_append, rcs_len]; simp; omega
    have e3 : Int.toNat ((i : Int) + 1) = i + 1 := by omega
    simp only [Int.toNat_natCast, e3, Nat.sub_zero, List.drop_zero, List.take_length]
    refine bT (dT (by omega)) (gX (by omega) (gK hj (gG (by omega) (gG (by omega) (gX (by omega) (gK (by omega) (gR (by rw [e1]; omega) (gR (by simp) (gK (by simp) (gI (by omega) ?_))))))))))
    rw [List.take_succ_eq_append_getElem hj]
    have eg : List.getD v j (0, 0) = v[j] := by rw [List.getD_eq_getElem?_getD, List.getElem?_eq_getElem hj]; rfl
    have er : ∀ (a b : Int) (x : List Sp) (y : Sp), rcs (a, b, x ++ [y]) = rcs (a, b, x) ++ [(y.1, y.2, a, b)] := fun a b x y => by simp [rcs]
    rw [eg, er, ← List.append_assoc]
    rfl) (by
    rw [m_rectangle_combine_2_L3_eq]
    exact bF (dF (by omega)) (by rw [List.take_length]))
  have e0 : u ++ rcs (eAt l6 i, eAt l6 (i + 1), v.take 0) = u := by simp [rcs]
  rw [e0] at h
  exact h
theorem p_rectangle_combine_3_L3 {l6 : List Int} {i : Nat} (hi : i + 1 < l6.length) (v : List Sp) (u : List Rc) (hu : u.length ≤ 1000000) (hv : v.length ≤ 1000000) :
    loop (m_rectangle_combine_3_L3 std (i : Int) l6 v) (0, u) = some (u ++ rcs (eAt l6 i, eAt l6 (i + 1), v)) := by
  have h := loop_up (B := m_rectangle_combine_3_L3 std (i : Int) l6 v) (n := v.length) (fun j => u ++ rcs (eAt l6 i, eAt l6 (i + 1), v.take j)) (e := u ++ rcs (eAt l6 i, eAt l6 (i + 1), v)) (by omega) (fun j hj => by
    rw [m_rectangle_combine_3_L3_eq]
    have e1 : (u ++ rcs (eAt l6 i, eAt l6 (i + 1), v.take j)).length = u.length + j := by rw [List.length_append, rcs_len]; simp; omega
    have e3 : Int.toNat ((i : Int) + 1) = i + 1 := by omega
    simp only [Int.toNat_natCast, e3, Nat.sub_zero, List.drop_zero, List.take_length]
    refine bT (dT (by omega)) (gX (by omega) (gK hj (gG (by omega) (gG (by omega) (gX (by omega) (gK (by omega) (gR (by rw [e1]; omega) (gR (by simp) (gK (by simp) (gI (by omega) ?_))))))))))
    rw [List.take_succ_eq_append_getElem hj]
    have eg : List.getD v j (0, 0) = v[j] := by rw [List.getD_eq_getElem?_getD, List.getElem?_eq_getElem hj]; rfl
    have er : ∀ (a b : Int) (x : List Sp) (y : Sp), rcs (a, b, x ++ [y]) = rcs (a, b, x) ++ [(y.1, y.2, a, b)] := fun a b x y => by simp [rcs]
    rw [eg, er, ← List.append_assoc]
    rfl) (by
    rw [m_rectangle_combine_3_L3_eq]
    exact bF (dF (by omega)) (by rw [List.take_length]))
  have e0 : u ++ rcs (eAt l6 i, eAt l6 (i + 1), v.take 0) = u := by simp [rcs]
  rw [e0] at h
  exact h
theorem flatG_addG_len (g : List Seg) (s : Seg) : (flatG g).length ≤ (flatG (addG g s)).length := by
  by_cases h0 : s.2.2 = []
  · rw [addG_none g h0]; exact Nat.le_refl _
  · rcases snoc_cases g with rfl | ⟨u, r, rfl⟩
    · simp [flatG]
    · rw [addG_snoc u r h0]
      split
      · rw [flatG_app, flatG_app, flatG_one, flatG_one, List.length_append, List.length_append, rcs_len, rcs_len]
        exact Nat.le_refl _
      · rw [flatG_app (u ++ [r])]
        simp
theorem flatG_build_len (E : Nat → Int) (F : Nat → List Sp) {i j : Nat} (h : i ≤ j) : (flatG (buildG E F i)).length ≤ (flatG (buildG E F j)).length := by
  induction j with
  | zero => have : i = 0 := by omega
            subst this; exact Nat.le_refl _
  | succ j ih =>
    rcases Nat.lt_or_ge i (j + 1) with h1 | h1
    · have := ih (by omega)
      have h2 := flatG_addG_len (buildG E F j) (E j, E (j + 1), F j)
      exact Nat.le_trans this h2
    · have : i = j + 1 := by omega
      subst this; exact Nat.le_refl _
/-- the program's state before an interval: its list, the last interval's set, and where its rectangles begin -/
structure CmbI (E : Nat → Int) (F : Nat → List Sp) (i : Nat) (start : Nat) (out : List Rc) (pr : List Sp) : Prop where
  oq : out = flatG (buildG E F i)
  none : pr = [] → start = out.length ∧ ∀ r ∈ buildG E F i, r.2.1 < E i
  some : pr ≠ [] → ∃ g0 f0, buildG E F i = g0 ++ [(f0, E i, pr)] ∧ start = (flatG g0).length
theorem CmbI.init (E : Nat → Int) (F : Nat → List Sp) : CmbI E F 0 0 [] [] := ⟨rfl, fun _ => ⟨rfl, fun r h => (by cases h)⟩, fun h => absurd rfl h⟩
theorem CmbI.same {E : Nat → Int} {F : Nat → List Sp} {i start : Nat} {out : List Rc} {pr : List Sp} (h : CmbI E F i start out pr) (hlt : E i < E (i + 1)) (he : F i = pr) :
    ∃ u v, out = u ++ v ∧ u.length = start ∧ CmbI E F (i + 1) start (u ++ v.map fun r => (r.1, r.2.1, r.2.2.1, E (i + 1))) pr := by
  by_cases hp : pr = []
  · obtain ⟨h1, h2⟩ := h.none hp
    refine ⟨out, [], by simp, h1.symm, ?_⟩
    have hb : buildG E F (i + 1) = buildG E F i := by
      show addG _ _ = _
      exact addG_none _ (by rw [he]; exact hp)
    refine ⟨by rw [hb]; simpa using h.oq, fun _ => ⟨by simpa using h1, fun r hr => ?_⟩, fun h => absurd hp h⟩
    rw [hb] at hr
    have := h2 r hr
    omega
  · obtain ⟨g0, f0, h1, h2⟩ := h.some hp
    have hb : buildG E F (i + 1) = g0 ++ [(f0, E (i + 1), pr)] := by
      show addG (buildG E F i) (E i, E (i + 1), F i) = _
      rw [h1, he, addG_snoc g0 _ hp, if_pos ⟨rfl, rfl⟩]
    refine ⟨flatG g0, rcs (f0, E i, pr), by rw [h.oq, h1, flatG_app, flatG_one], h2.symm, ?_, fun h => absurd h hp, fun _ => ⟨g0, f0, hb, h2⟩⟩
    rw [hb, flatG_app, flatG_one]
    congr 1
    simp [rcs]
theorem CmbI.other {E : Nat → Int} {F : Nat → List Sp} {i start : Nat} {out : List Rc} {pr : List Sp} (h : CmbI E F i start out pr) (hlt : E i < E (i + 1)) (hg : ∀ r ∈ buildG E F i, r.2.1 ≤ E i) (he : F i ≠ pr) :
    CmbI E F (i + 1) out.length (out ++ rcs (E i, E (i + 1), F i)) (F i) := by
  by_cases h0 : F i = []
  · have hb : buildG E F (i + 1) = buildG E F i := by
      show addG _ _ = _
      exact addG_none _ h0
    refine ⟨by rw [hb, h0]; simpa [rcs] using h.oq, fun _ => ⟨by rw [h0]; simp [rcs], fun r hr => ?_⟩, fun h => absurd h0 h⟩
    rw [hb] at hr
    have := hg r hr
    omega
  · have hb : buildG E F (i + 1) = buildG E F i ++ [(E i, E (i + 1), F i)] := by
      show addG (buildG E F i) (E i, E (i + 1), F i) = _
      rcases snoc_cases (buildG E F i) with h1 | ⟨u, r, h1⟩
      · rw [h1, addG_nil h0]; rfl
      · rw [h1, addG_snoc u r h0]
        refine if_neg ?_
        rintro ⟨h2, h3⟩
        by_cases hp : pr = []
        · have := (h.none hp).2 r (by rw [h1]; simp)
          omega
        · obtain ⟨g0, f0, h4, _⟩ := h.some hp
          rw [h1] at h4
          have h5 := List.append_inj_right' h4 rfl
          have h6 : r = (f0, E i, pr) := by simpa using h5
          rw [h6] at h3
          exact he h3.symm
    refine ⟨by rw [hb, flatG_app, flatG_one, h.oq], fun h => absurd h h0, fun _ => ⟨_, _, hb, by rw [h.oq]⟩⟩
theorem p_rectangle_combine_ends {l : List Rc} (hl : l.length ≤ 1000000) : loop (m_rectangle_combine_L1 std l) (0, ([] : List Int)) = some (txE l) := by
  have h := loop_up (B := m_rectangle_combine_L1 std l) (n := l.length) (fun i => txE (l.take i)) (e := txE l) (by omega) (fun i hi => by
    have hlen := txE_len (l.take i)
    rw [List.length_take] at hlen
    rw [txE_take hi, m_rectangle_combine_L1_eq]
    generalize txE (l.take i) = acc at *
    simp only [Int.toNat_natCast]
    exact bT (dT (by omega)) (gX (by omega) (gK hi (gR (by omega) (gR (by simp) (gI (by omega) rfl)))))) (by
    rw [m_rectangle_combine_L1_eq]
    refine bF (dF (by omega)) ?_
    show some (Sum.inr (txE (l.take l.length))) = _
    rw [List.take_length])
  exact h
theorem p_rectangle_combine_L4 {a b : List Rc} (ha : lvB a = true) (hb : lvB b = true) (hla : a.length ≤ 500) (hlb : b.length ≤ 500) {es : List Int} (hes : es.Pairwise (· < ·)) (hen : es.length ≤ 1000000) :
    ∃ e, loop (m_rectangle_combine_L4 std a b es) (0, 0, ([] : List Rc), ([] : List Sp)) = some e ∧
      ((e = .inl 5 ∧ 500 < (flatG (buildG (eAt es) (fun i => opS rOr (tS a (eAt es i)) (tS b (eAt es i))) (es.length - 1))).length) ∨
       (e = .inr (flatG (buildG (eAt es) (fun i => opS rOr (tS a (eAt es i)) (tS b (eAt es i))) (es.length - 1))) ∧ (flatG (buildG (eAt es) (fun i => opS rOr (tS a (eAt es i)) (tS b (eAt es i))) (es.length - 1))).length ≤ 500)) := by
  obtain ⟨F, hF⟩ : ∃ F : Nat → List Sp, (fun i => opS rOr (tS a (eAt es i)) (tS b (eAt es i))) = F := ⟨_, rfl⟩
  have hf : ∀ i, m_runs_Union std (tS a (eAt es i)) (tS b (eAt es i)) = some (F i, 0) ∧ OpOk rOr (tS a (eAt es i)) (tS b (eAt es i)) (F i) := fun i => by
    have := p_runs_Union (tS_time ha (eAt es i)) (tS_time hb (eAt es i)) (by have := tS_len ha (eAt es i); omega) (by have := tS_len hb (eAt es i); omega)
    rw [← hF]; exact this
  have hlt := eAt_lt hes
  rw [hF]
  have hB := fun (i : Nat) (hi : i ≤ es.length - 1) => buildG_ok (E := eAt es) (F := F) (n := i) (fun j hj => hlt j (by omega)) (fun j _ => (hf j).2.can)
  refine loop_is (B := m_rectangle_combine_L4 std a b es) (fun y => ∃ i start : Nat, y.1 = (start : Int) ∧ y.2.1 = (i : Int) ∧ i ≤ es.length - 1 ∧ CmbI (eAt es) F i start y.2.2.1 y.2.2.2 ∧ y.2.2.1.length ≤ 500)
    (fun y => es.length - y.2.1.toNat) _ ⟨0, 0, rfl, rfl, Nat.zero_le _, CmbI.init _ _, by simp⟩ (by show _ - _ < _; omega) ?_
  rintro ⟨st, z, out, pr⟩ ⟨i, start, h1, h2, hi, hc, hlen⟩
  change st = (start : Int) at h1
  change z = (i : Int) at h2
  change out.length ≤ 500 at hlen
  change CmbI (eAt es) F i start out pr at hc
  subst h1; subst h2
  rw [m_rectangle_combine_L4_eq]
  by_cases hi1 : i + 1 < es.length
  · have hlti := hlt i (by omega)
    have e1 : List.getD es (Int.toNat (i : Int)) 0 = eAt es i := by rw [Int.toNat_natCast]; rfl
    have hFl : (F i).length ≤ 1000 := by
      have := (hf i).2.len
      have := tS_len ha (eAt es i)
      have := tS_len hb (eAt es i)
      omega
    by_cases he : F i = pr
    · obtain ⟨u, v, k1, k2, k3⟩ := hc.same hlti he
      refine ⟨.inl ((start : Int), ((i + 1 : Nat) : Int), u ++ v.map fun r => (r.1, r.2.1, r.2.2.1, eAt es (i + 1)), pr), ?_, ⟨i + 1, start, rfl, rfl, by omega, k3, ?_⟩, ?_⟩
      · refine gI (by omega) (bT (dT (by omega)) (gX (by omega) (gK (by omega) ?_)))
        rw [e1]
        refine bB (p_times ha (by omega) _) (bB (p_times hb (by omega) _) (bB (hf i).1 (bF rfl ?_)))
        refine bB (p_slices_Equal _ _ (by omega)) (bT (dT he) ?_)
        have hs := p_rectangle_combine_L2 (l6 := es) hi1 u v (by have := congrArg List.length k1; rw [List.length_append] at this; omega) (by have := congrArg List.length k1; rw [List.length_append] at this; omega)
        rw [k1, ← k2]
        exact bB hs rfl
      · show (u ++ v.map _).length ≤ 500
        rw [List.length_append, List.length_map, ← List.length_append, ← k1]; exact hlen
      · show es.length - Int.toNat ((i + 1 : Nat) : Int) < es.length - Int.toNat (i : Int)
        omega
    · have hg := (hB i hi).2.1
      have hco := hc.other hlti hg he
      have hbig : (out ++ rcs (eAt es i, eAt es (i + 1), F i)).length ≤ 1500 := by rw [List.length_append, rcs_len]; show out.length + (F i).length ≤ _; omega
      have hlen2 : (out ++ rcs (eAt es i, eAt es (i + 1), F i)).length ≤ (flatG (buildG (eAt es) F (es.length - 1))).length := by
        rw [hco.oq]; exact flatG_build_len _ _ (by omega)
      have head : ∀ (r : (Int × Int × List Rc × List Sp) ⊕ (Int ⊕ List Rc)), (bif decide (500 < (((out ++ rcs (eAt es i, eAt es (i + 1), F i)).length : Nat) : Int)) then some (Sum.inr (Sum.inl 5)) else some (Sum.inl (((out.length : Nat) : Int), (i : Int) + 1, out ++ rcs (eAt es i, eAt es (i + 1), F i), F i)) : Option ((Int × Int × List Rc × List Sp) ⊕ (Int ⊕ List Rc))) = some r →
          (grd (okI .i64 ((i : Int) + 1)) <| bif (decide (((i : Int) + 1) < (((List.length es) : Nat) : Int))) then
            grd (okIdx (i : Int) ((List.length es))) <| grd (okKin ((Int.toNat (i : Int))) ((List.length es))) <|
            Option.bind (m_rectangle_times std ((List.getD es (Int.toNat (i : Int)) 0)) a) fun l44 =>
            Option.bind (m_rectangle_times std ((List.getD es (Int.toNat (i : Int)) 0)) b) fun l45 =>
            Option.bind (m_runs_Union std l44 l45) fun (l46, n27) =>
            bif (!(n27 == 0)) then (some (Sum.inr (Sum.inl n27)))
            else
              Option.bind (m_slices_Equal std l46 pr) fun b18 =>
              bif b18 then
                Option.bind (loop (m_rectangle_combine_L2 std (i : Int) es) ((start : Int), out)) fun l48 =>
                (some (Sum.inl ((start : Int), ((i : Int) + 1), l48, pr)))
              else
                Option.bind (loop (m_rectangle_combine_L3 std (i : Int) l46 es) (0, out)) fun l50 =>
                bif (decide (500 < (((List.length l50) : Nat) : Int))) then (some (Sum.inr (Sum.inl 5)))
                else (some (Sum.inl ((((List.length out) : Nat) : Int), ((i : Int) + 1), l50, l46)))
          else (some (Sum.inr (Sum.inr out))) : Option ((Int × Int × List Rc × List Sp) ⊕ (Int ⊕ List Rc))) = some r := fun r hr => by
        refine gI (by omega) (bT (dT (by omega)) (gX (by omega) (gK (by omega) ?_)))
        rw [e1]
        refine bB (p_times ha (by omega) _) (bB (p_times hb (by omega) _) (bB (hf i).1 (bF rfl ?_)))
        exact bB (p_slices_Equal _ _ (by omega)) (bF (dF he) (bB (p_rectangle_combine_L3 (l6 := es) hi1 (F i) out (by omega) (by omega)) hr))
      by_cases hb5 : 500 < (out ++ rcs (eAt es i, eAt es (i + 1), F i)).length
      · exact ⟨.inr (.inl 5), head _ (bT (dT (by omega)) rfl), .inl ⟨rfl, by omega⟩⟩
      · refine ⟨.inl ((out.length : Int), ((i + 1 : Nat) : Int), out ++ rcs (eAt es i, eAt es (i + 1), F i), F i), head _ (bF (dF (by omega)) rfl), ⟨i + 1, out.length, rfl, rfl, by omega, hco, by show (out ++ _).length ≤ 500; omega⟩, ?_⟩
        show es.length - Int.toNat ((i + 1 : Nat) : Int) < es.length - Int.toNat (i : Int)
        omega
  · refine ⟨.inr (.inr out), gI (by omega) (bF (dF (by omega)) rfl), .inr ?_⟩
    have : i = es.length - 1 := by omega
    rw [← this, ← hc.oq]
    exact ⟨rfl, hlen⟩
theorem p_rectangle_combine_2_ends {l : List Rc} (hl : l.length ≤ 1000000) : loop (m_rectangle_combine_2_L1 std l) (0, ([] : List Int)) = some (txE l) := by
  have h := loop_up (B := m_rectangle_combine_2_L1 std l) (n := l.length) (fun i => txE (l.take i)) (e := txE l) (by omega) (fun i hi => by
    have hlen := txE_len (l.take i)
    rw [List.length_take] at hlen
    rw [txE_take hi, m_rectangle_combine_2_L1_eq]
    generalize txE (l.take i) = acc at *
    simp only [Int.toNat_natCast]
    exact bT (dT (by omega)) (gX (by omega) (gK hi (gR (by omega) (gR (by simp) (gI (by omega) rfl)))))) (by
    rw [m_rectangle_combine_2_L1_eq]
    refine bF (dF (by omega)) ?_
    show some (Sum.inr (txE (l.take l.length))) = _
    rw [List.take_length])
  exact h
theorem p_rectangle_combine_2_L4 {a b : List Rc} (ha : lvB a = true) (hb : lvB b = true) (hla : a.length ≤ 500) (hlb : b.length ≤ 500) {es : List Int} (hes : es.Pairwise (· < ·)) (hen : es.length ≤ 1000000) :
    ∃ e, loop (m_rectangle_combine_2_L4 std a b es) (0, 0, ([] : List Rc), ([] : List Sp)) = some e ∧
      ((e = .inl 5 ∧ 500 < (flatG (buildG (eAt es) (fun i => opS rAnd (tS a (eAt es i)) (tS b (eAt es i))) (es.length - 1))).length) ∨
       (e = .inr (flatG (buildG (eAt es) (fun i => opS rAnd (tS a (eAt es i)) (tS b (eAt es i))) (es.length - 1))) ∧ (flatG (buildG (eAt es) (fun i => opS rAnd (tS a (eAt es i)) (tS b (eAt es i))) (es.length - 1))).length ≤ 500)) := by
  obtain ⟨F, hF⟩ : ∃ F : Nat → List Sp, (fun i => opS rAnd (tS a (eAt es i)) (tS b (eAt es i))) = F := ⟨_, rfl⟩
  have hf : ∀ i, m_runs_Meet std (tS a (eAt es i)) (tS b (eAt es i)) = some (F i, 0) ∧ OpOk rAnd (tS a (eAt es i)) (tS b (eAt es i)) (F i) := fun i => by
    have := p_runs_Meet (tS_time ha (eAt es i)) (tS_time hb (eAt es i)) (by have := tS_len ha (eAt es i); omega) (by have := tS_len hb (eAt es i); omega)
    rw [← hF]; exact this
  have hlt := eAt_lt hes
  rw [hF]
  have hB := fun (i : Nat) (hi : i ≤ es.length - 1) => buildG_ok (E := eAt es) (F := F) (n := i) (fun j hj => hlt j (by omega)) (fun j _ => (hf j).2.can)
  refine loop_is (B := m_rectangle_combine_2_L4 std a b es) (fun y => ∃ i start : Nat, y.1 = (start : Int) ∧ y.2.1 = (i : Int) ∧ i ≤ es.length - 1 ∧ CmbI (eAt es) F i start y.2.2.1 y.2.2.2 ∧ y.2.2.1.length ≤ 500)
    (fun y => es.length - y.2.1.toNat) _ ⟨0, 0, rfl, rfl, Nat.zero_le _, CmbI.init _ _, by simp⟩ (by show _ - _ < _; omega) ?_
  rintro ⟨st, z, out, pr⟩ ⟨i, start, h1, h2, hi, hc, hlen⟩
  change st = (start : Int) at h1
  change z = (i : Int) at h2
  change out.length ≤ 500 at hlen
  change CmbI (eAt es) F i start out pr at hc
  subst h1; subst h2
  rw [m_rectangle_combine_2_L4_eq]
  by_cases hi1 : i + 1 < es.length
  · have hlti := hlt i (by omega)
    have e1 : List.getD es (Int.toNat (i : Int)) 0 = eAt es i := by rw [Int.toNat_natCast]; rfl
    have hFl : (F i).length ≤ 1000 := by
      have := (hf i).2.len
      have := tS_len ha (eAt es i)
      have := tS_len hb (eAt es i)
      omega
    by_cases he : F i = pr
    · obtain ⟨u, v, k1, k2, k3⟩ := hc.same hlti he
      refine ⟨.inl ((start : Int), ((i + 1 : Nat) : Int), u ++ v.map fun r => (r.1, r.2.1, r.2.2.1, eAt es (i + 1)), pr), ?_, ⟨i + 1, start, rfl, rfl, by omega, k3, ?_⟩, ?_⟩
      · refine gI (by omega) (bT (dT (by omega)) (gX (by omega) (gK (by omega) ?_)))
        rw [e1]
        refine bB (p_times ha (by omega) _) (bB (p_times hb (by omega) _) (bB (hf i).1 (bF rfl ?_)))
        refine bB (p_slices_Equal _ _ (by omega)) (bT (dT he) ?_)
        have hs := p_rectangle_combine_2_L2 (l6 := es) hi1 u v (by have := congrArg List.length k1; rw [List.length_append] at this; omega) (by have := congrArg List.length k1; rw [List.length_append] at this; omega)
        rw [k1, ← k2]
        exact bB hs rfl
      · show (u ++ v.map _).length ≤ 500
        rw [List.length_append, List.length_map, ← List.length_append, ← k1]; exact hlen
      · show es.length - Int.toNat ((i + 1 : Nat) : Int) < es.length - Int.toNat (i : Int)
        omega
    · have hg := (hB i hi).2.1
      have hco := hc.other hlti hg he
      have hbig : (out ++ rcs (eAt es i, eAt es (i + 1), F i)).length ≤ 1500 := by rw [List.length_append, rcs_len]; show out.length + (F i).length ≤ _; omega
      have hlen2 : (out ++ rcs (eAt es i, eAt es (i + 1), F i)).length ≤ (flatG (buildG (eAt es) F (es.length - 1))).length := by
        rw [hco.oq]; exact flatG_build_len _ _ (by omega)
      have head : ∀ (r : (Int × Int × List Rc × List Sp) ⊕ (Int ⊕ List Rc)), (bif decide (500 < (((out ++ rcs (eAt es i, eAt es (i + 1), F i)).length : Nat) : Int)) then some (Sum.inr (Sum.inl 5)) else some (Sum.inl (((out.length : Nat) : Int), (i : Int) + 1, out ++ rcs (eAt es i, eAt es (i + 1), F i), F i)) : Option ((Int × Int × List Rc × List Sp) ⊕ (Int ⊕ List Rc))) = some r →
          (grd (okI .i64 ((i : Int) + 1)) <| bif (decide (((i : Int) + 1) < (((List.length es) : Nat) : Int))) then
            grd (okIdx (i : Int) ((List.length es))) <| grd (okKin ((Int.toNat (i : Int))) ((List.length es))) <|
            Option.bind (m_rectangle_times std ((List.getD es (Int.toNat (i : Int)) 0)) a) fun l44 =>
            Option.bind (m_rectangle_times std ((List.getD es (Int.toNat (i : Int)) 0)) b) fun l45 =>
            Option.bind (m_runs_Meet std l44 l45) fun (l46, n27) =>
            bif (!(n27 == 0)) then (some (Sum.inr (Sum.inl n27)))
            else
              Option.bind (m_slices_Equal std l46 pr) fun b18 =>
              bif b18 then
                Option.bind (loop (m_rectangle_combine_2_L2 std (i : Int) es) ((start : Int), out)) fun l48 =>
                (some (Sum.inl ((start : Int), ((i : Int) + 1), l48, pr)))
              else
                Option.bind (loop (m_rectangle_combine_2_L3 std (i : Int) es l46) (0, out)) fun l50 =>
                bif (decide (500 < (((List.length l50) : Nat) : Int))) then (some (Sum.inr (Sum.inl 5)))
                else (some (Sum.inl ((((List.length out) : Nat) : Int), ((i : Int) + 1), l50, l46)))
          else (some (Sum.inr (Sum.inr out))) : Option ((Int × Int × List Rc × List Sp) ⊕ (Int ⊕ List Rc))) = some r := fun r hr => by
        refine gI (by omega) (bT (dT (by omega)) (gX (by omega) (gK (by omega) ?_)))
        rw [e1]
        refine bB (p_times ha (by omega) _) (bB (p_times hb (by omega) _) (bB (hf i).1 (bF rfl ?_)))
        exact bB (p_slices_Equal _ _ (by omega)) (bF (dF he) (bB (p_rectangle_combine_2_L3 (l6 := es) hi1 (F i) out (by omega) (by omega)) hr))
      by_cases hb5 : 500 < (out ++ rcs (eAt es i, eAt es (i + 1), F i)).length
      · exact ⟨.inr (.inl 5), head _ (bT (dT (by omega)) rfl), .inl ⟨rfl, by omega⟩⟩
      · refine ⟨.inl ((out.length : Int), ((i + 1 : Nat) : Int), out ++ rcs (eAt es i, eAt es (i + 1), F i), F i), head _ (bF (dF (by omega)) rfl), ⟨i + 1, out.length, rfl, rfl, by omega, hco, by show (out ++ _).length ≤ 500; omega⟩, ?_⟩
        show es.length - Int.toNat ((i + 1 : Nat) : Int) < es.length - Int.toNat (i : Int)
        omega
  · refine ⟨.inr (.inr out), gI (by omega) (bF (dF (by omega)) rfl), .inr ?_⟩
    have : i = es.length - 1 := by omega
    rw [← this, ← hc.oq]
    exact ⟨rfl, hlen⟩
theorem p_rectangle_combine_3_ends {l : List Rc} (hl : l.length ≤ 1000000) : loop (m_rectangle_combine_3_L1 std l) (0, ([] : List Int)) = some (txE l) := by
  have h := loop_up (B := m_rectangle_combine_3_L1 std l) (n := l.length) (fun i => txE (l.take i)) (e := txE l) (by omega) (fun i hi => by
    have hlen := txE_len (l.take i)
    rw [List.length_take] at hlen
    rw [txE_take hi, m_rectangle_combine_3_L1_eq]
    generalize txE (l.take i) = acc at *
    simp only [Int.toNat_natCast]
    exact bT (dT (by omega)) (gX (by omega) (gK hi (gR (by omega) (gR (by simp) (gI (by omega) rfl)))))) (by
    rw [m_rectangle_combine_3_L1_eq]
    refine bF (dF (by omega)) ?_
    show some (Sum.inr (txE (l.take l.length))) = _
    rw [List.take_length])
  exact h
theorem p_rectangle_combine_3_L4 {a b : List Rc} (ha : lvB a = true) (hb : lvB b = true) (hla : a.length ≤ 500) (hlb : b.length ≤ 500) {es : List Int} (hes : es.Pairwise (· < ·)) (hen : es.length ≤ 1000000) :
    ∃ e, loop (m_rectangle_combine_3_L4 std a b es) (0, 0, ([] : List Rc), ([] : List Sp)) = some e ∧
      ((e = .inl 5 ∧ 500 < (flatG (buildG (eAt es) (fun i => opS rSub (tS a (eAt es i)) (tS b (eAt es i))) (es.length - 1))).length) ∨
       (e = .inr (flatG (buildG (eAt es) (fun i => opS rSub (tS a (eAt es i)) (tS b (eAt es i))) (es.length - 1))) ∧ (flatG (buildG (eAt es) (fun i => opS rSub (tS a (eAt es i)) (tS b (eAt es i))) (es.length - 1))).length ≤ 500)) := by
  obtain ⟨F, hF⟩ : ∃ F : Nat → List Sp, (fun i => opS rSub (tS a (eAt es i)) (tS b (eAt es i))) = F := ⟨_, rfl⟩
  have hf : ∀ i, m_runs_Minus std (tS a (eAt es i)) (tS b (eAt es i)) = some (F i, 0) ∧ OpOk rSub (tS a (eAt es i)) (tS b (eAt es i)) (F i) := fun i => by
    have := p_runs_Minus (tS_time ha (eAt es i)) (tS_time hb (eAt es i)) (by have := tS_len ha (eAt es i); omega) (by have := tS_len hb (eAt es i); omega)
    rw [← hF]; exact this
  have hlt := eAt_lt hes
  rw [hF]
  have hB := fun (i : Nat) (hi : i ≤ es.length - 1) => buildG_ok (E := eAt es) (F := F) (n := i) (fun j hj => hlt j (by omega)) (fun j _ => (hf j).2.can)
  refine loop_is (B := m_rectangle_combine_3_L4 std a b es) (fun y => ∃ i start : Nat, y.1 = (start : Int) ∧ y.2.1 = (i : Int) ∧ i ≤ es.length - 1 ∧ CmbI (eAt es) F i start y.2.2.1 y.2.2.2 ∧ y.2.2.1.length ≤ 500)
    (fun y => es.length - y.2.1.toNat) _ ⟨0, 0, rfl, rfl, Nat.zero_le _, CmbI.init _ _, by simp⟩ (by show _ - _ < _; omega) ?_
  rintro ⟨st, z, out, pr⟩ ⟨i, start, h1, h2, hi, hc, hlen⟩
  change st = (start : Int) at h1
  change z = (i : Int) at h2
  change out.length ≤ 500 at hlen
  change CmbI (eAt es) F i start out pr at hc
  subst h1; subst h2
  rw [m_rectangle_combine_3_L4_eq]
  by_cases hi1 : i + 1 < es.length
  · have hlti := hlt i (by omega)
    have e1 : List.getD es (Int.toNat (i : Int)) 0 = eAt es i := by rw [Int.toNat_natCast]; rfl
    have hFl : (F i).length ≤ 1000 := by
      have := (hf i).2.len
      have := tS_len ha (eAt es i)
      have := tS_len hb (eAt es i)
      omega
    by_cases he : F i = pr
    · obtain ⟨u, v, k1, k2, k3⟩ := hc.same hlti he
      refine ⟨.inl ((start : Int), ((i + 1 : Nat) : Int), u ++ v.map fun r => (r.1, r.2.1, r.2.2.1, eAt es (i + 1)), pr), ?_, ⟨i + 1, start, rfl, rfl, by omega, k3, ?_⟩, ?_⟩
      · refine gI (by omega) (bT (dT (by omega)) (gX (by omega) (gK (by omega) ?_)))
        rw [e1]
        refine bB (p_times ha (by omega) _) (bB (p_times hb (by omega) _) (bB (hf i).1 (bF rfl ?_)))
        refine bB (p_slices_Equal _ _ (by omega)) (bT (dT he) ?_)
        have hs := p_rectangle_combine_3_L2 (l6 := es) hi1 u v (by have := congrArg List.length k1; rw [List.length_append] at this; omega) (by have := congrArg List.length k1; rw [List.length_append] at this; omega)
        rw [k1, ← k2]
        exact bB hs rfl
      · show (u ++ v.map _).length ≤ 500
        rw [List.length_append, List.length_map, ← List.length_append, ← k1]; exact hlen
      · show es.length - Int.toNat ((i + 1 : Nat) : Int) < es.length - Int.toNat (i : Int)
        omega
    · have hg := (hB i hi).2.1
      have hco := hc.other hlti hg he
      have hbig : (out ++ rcs (eAt es i, eAt es (i + 1), F i)).length ≤ 1500 := by rw [List.length_append, rcs_len]; show out.length + (F i).length ≤ _; omega
      have hlen2 : (out ++ rcs (eAt es i, eAt es (i + 1), F i)).length ≤ (flatG (buildG (eAt es) F (es.length - 1))).length := by
        rw [hco.oq]; exact flatG_build_len _ _ (by omega)
      have head : ∀ (r : (Int × Int × List Rc × List Sp) ⊕ (Int ⊕ List Rc)), (bif decide (500 < (((out ++ rcs (eAt es i, eAt es (i + 1), F i)).length : Nat) : Int)) then some (Sum.inr (Sum.inl 5)) else some (Sum.inl (((out.length : Nat) : Int), (i : Int) + 1, out ++ rcs (eAt es i, eAt es (i + 1), F i), F i)) : Option ((Int × Int × List Rc × List Sp) ⊕ (Int ⊕ List Rc))) = some r →
          (grd (okI .i64 ((i : Int) + 1)) <| bif (decide (((i : Int) + 1) < (((List.length es) : Nat) : Int))) then
            grd (okIdx (i : Int) ((List.length es))) <| grd (okKin ((Int.toNat (i : Int))) ((List.length es))) <|
            Option.bind (m_rectangle_times std ((List.getD es (Int.toNat (i : Int)) 0)) a) fun l44 =>
            Option.bind (m_rectangle_times std ((List.getD es (Int.toNat (i : Int)) 0)) b) fun l45 =>
            Option.bind (m_runs_Minus std l44 l45) fun (l46, n27) =>
            bif (!(n27 == 0)) then (some (Sum.inr (Sum.inl n27)))
            else
              Option.bind (m_slices_Equal std l46 pr) fun b18 =>
              bif b18 then
                Option.bind (loop (m_rectangle_combine_3_L2 std (i : Int) es) ((start : Int), out)) fun l48 =>
                (some (Sum.inl ((start : Int), ((i : Int) + 1), l48, pr)))
              else
                Option.bind (loop (m_rectangle_combine_3_L3 std (i : Int) es l46) (0, out)) fun l50 =>
                bif (decide (500 < (((List.length l50) : Nat) : Int))) then (some (Sum.inr (Sum.inl 5)))
                else (some (Sum.inl ((((List.length out) : Nat) : Int), ((i : Int) + 1), l50, l46)))
          else (some (Sum.inr (Sum.inr out))) : Option ((Int × Int × List Rc × List Sp) ⊕ (Int ⊕ List Rc))) = some r := fun r hr => by
        refine gI (by omega) (bT (dT (by omega)) (gX (by omega) (gK (by omega) ?_)))
        rw [e1]
        refine bB (p_times ha (by omega) _) (bB (p_times hb (by omega) _) (bB (hf i).1 (bF rfl ?_)))
        exact bB (p_slices_Equal _ _ (by omega)) (bF (dF he) (bB (p_rectangle_combine_3_L3 (l6 := es) hi1 (F i) out (by omega) (by omega)) hr))
      by_cases hb5 : 500 < (out ++ rcs (eAt es i, eAt es (i + 1), F i)).length
      · exact ⟨.inr (.inl 5), head _ (bT (dT (by omega)) rfl), .inl ⟨rfl, by omega⟩⟩
      · refine ⟨.inl ((out.length : Int), ((i + 1 : Nat) : Int), out ++ rcs (eAt es i, eAt es (i + 1), F i), F i), head _ (bF (dF (by omega)) rfl), ⟨i + 1, out.length, rfl, rfl, by omega, hco, by show (out ++ _).length ≤ 500; omega⟩, ?_⟩
        show es.length - Int.toNat ((i + 1 : Nat) : Int) < es.length - Int.toNat (i : Int)
        omega
  · refine ⟨.inr (.inr out), gI (by omega) (bF (dF (by omega)) rfl), .inr ?_⟩
    have : i = es.length - 1 := by omega
    rw [← this, ← hc.oq]
    exact ⟨rfl, hlen⟩
end
section
def esOf (a b : List Rc) : List Int := endS (a ++ b)
noncomputable def segC (rule : Bool → Bool → Bool) (a b : List Rc) : List Seg := buildG (eAt (esOf a b)) (fun i => opS rule (tS a (eAt (esOf a b) i)) (tS b (eAt (esOf a b) i))) ((esOf a b).length - 1)
noncomputable def resC (rule : Bool → Bool → Bool) (a b : List Rc) : List Rc × Int :=
  if chk2 a b = 0 then (if (flatG (segC rule a b)).length ≤ 500 then (flatG (segC rule a b), 0) else ([], 5)) else ([], chk2 a b)
theorem chk2_zero {a b : List Rc} : chk2 a b = 0 ↔ lvB a = true ∧ lvB b = true ∧ a.length ≤ 500 ∧ b.length ≤ 500 := by
  unfold chk2
  cases h1 : lvB a <;> cases h2 : lvB b <;> simp
theorem esOf_ok (a b : List Rc) : (esOf a b).Pairwise (· < ·) ∧ (∀ x, x ∈ esOf a b ↔ x ∈ txE (a ++ b)) ∧ (esOf a b).length ≤ 2 * (a.length + b.length) := by
  have := endS_ok (a ++ b)
  rw [List.length_append] at this
  exact this
theorem p_rectangle_combine (a b : List Rc) (hla : a.length ≤ 100000) (hlb : b.length ≤ 100000) : m_rectangle_combine std a b = some (resC rOr a b) := by
  rw [m_rectangle_combine_eq]
  refine bB (p_check a b (by omega) (by omega)) ?_
  unfold resC
  by_cases h0 : chk2 a b = 0
  · obtain ⟨h1, h2, h3, h4⟩ := chk2_zero.1 h0
    rw [if_pos h0, h0]
    obtain ⟨k1, _, k3⟩ := esOf_ok a b
    refine bF rfl (bB (p_Concat a b (by omega) (by omega)) (bB (p_rectangle_combine_ends (l := a ++ b) (by simp; omega)) (bB (v := sortI (txE (a ++ b))) ?_ (bB (v := esOf a b) ?_ ?_))))
    · rw [m_sortI_eq]; exact gR (by rw [txE_len]; simp; omega) rfl
    · rw [m_compI_eq]; exact gR (by rw [sortI_len, txE_len]; simp; omega) rfl
    · obtain ⟨e, q1, q2⟩ := p_rectangle_combine_L4 h1 h2 h3 h4 k1 (by omega)
      refine bB q1 ?_
      rcases q2 with ⟨rfl, q3⟩ | ⟨rfl, q3⟩
      · show some _ = some _
        rw [if_neg (by show ¬ (flatG (buildG _ _ _)).length ≤ 500; omega)]
      · show some _ = some _
        rw [if_pos (by exact q3)]; rfl
  · rw [if_neg h0]
    exact bT (nT (eF h0)) rfl
theorem p_rectangle_combine_2 (a b : List Rc) (hla : a.length ≤ 100000) (hlb : b.length ≤ 100000) : m_rectangle_combine_2 std a b = some (resC rAnd a b) := by
  rw [m_rectangle_combine_2_eq]
  refine bB (p_check a b (by omega) (by omega)) ?_
  unfold resC
  by_cases h0 : chk2 a b = 0
  · obtain ⟨h1, h2, h3, h4⟩ := chk2_zero.1 h0
    rw [if_pos h0, h0]
    obtain ⟨k1, _, k3⟩ := esOf_ok a b
    refine bF rfl (bB (p_Concat a b (by omega) (by omega)) (bB (p_rectangle_combine_2_ends (l := a ++ b) (by simp; omega)) (bB (v := sortI (txE (a ++ b))) ?_ (bB (v := esOf a b) ?_ ?_))))
    · rw [m_sortI_eq]; exact gR (by rw [txE_len]; simp; omega) rfl
    · rw [m_compI_eq]; exact gR (by rw [sortI_len, txE_len]; simp; omega) rfl
    · obtain ⟨e, q1, q2⟩ := p_rectangle_combine_2_L4 h1 h2 h3 h4 k1 (by omega)
      refine bB q1 ?_
      rcases q2 with ⟨rfl, q3⟩ | ⟨rfl, q3⟩
      · show some _ = some _
        rw [if_neg (by show ¬ (flatG (buildG _ _ _)).length ≤ 500; omega)]
      · show some _ = some _
        rw [if_pos (by exact q3)]; rfl
  · rw [if_neg h0]
    exact bT (nT (eF h0)) rfl
theorem p_rectangle_combine_3 (a b : List Rc) (hla : a.length ≤ 100000) (hlb : b.length ≤ 100000) : m_rectangle_combine_3 std a b = some (resC rSub a b) := by
  rw [m_rectangle_combine_3_eq]
  refine bB (p_check a b (by omega) (by omega)) ?_
  unfold resC
  by_cases h0 : chk2 a b = 0
  · obtain ⟨h1, h2, h3, h4⟩ := chk2_zero.1 h0
    rw [if_pos h0, h0]
    obtain ⟨k1, _, k3⟩ := esOf_ok a b
    refine bF rfl (bB (p_Concat a b (by omega) (by omega)) (bB (p_rectangle_combine_3_ends (l := a ++ b) (by simp; omega)) (bB (v := sortI (txE (a ++ b))) ?_ (bB (v := esOf a b) ?_ ?_))))
    · rw [m_sortI_eq]; exact gR (by rw [txE_len]; simp; omega) rfl
    · rw [m_compI_eq]; exact gR (by rw [sortI_len, txE_len]; simp; omega) rfl
    · obtain ⟨e, q1, q2⟩ := p_rectangle_combine_3_L4 h1 h2 h3 h4 k1 (by omega)
      refine bB q1 ?_
      rcases q2 with ⟨rfl, q3⟩ | ⟨rfl, q3⟩
      · show some _ = some _
        rw [if_neg (by show ¬ (flatG (buildG _ _ _)).length ≤ 500; omega)]
      · show some _ = some _
        rw [if_pos (by exact q3)]; rfl
  · rw [if_neg h0]
    exact bT (nT (eF h0)) rfl
theorem p_Canonical (l : List Rc) (h : l.length ≤ 100000) : m_rectangle_Canonical std l = some (resC rOr l []) := by
  rw [m_rectangle_Canonical_eq]; exact bB (p_rectangle_combine l [] h (by simp)) rfl
theorem p_Union (a b : List Rc) (ha : a.length ≤ 100000) (hb : b.length ≤ 100000) : m_rectangle_Union std a b = some (resC rOr a b) := by
  rw [m_rectangle_Union_eq]; exact bB (p_rectangle_combine a b ha hb) rfl
theorem p_Meet (a b : List Rc) (ha : a.length ≤ 100000) (hb : b.length ≤ 100000) : m_rectangle_Meet std a b = some (resC rAnd a b) := by
  rw [m_rectangle_Meet_eq]; exact bB (p_rectangle_combine_2 a b ha hb) rfl
theorem p_Minus (a b : List Rc) (ha : a.length ≤ 100000) (hb : b.length ≤ 100000) : m_rectangle_Minus std a b = some (resC rSub a b) := by
  rw [m_rectangle_Minus_eq]; exact bB (p_rectangle_combine_3 a b ha hb) rfl

/-! what it contains -/
theorem eAt_mem {es : List Int} {x : Int} : x ∈ es ↔ ∃ i, i < es.length ∧ eAt es i = x := by
  constructor
  · intro h
    obtain ⟨i, hi, e⟩ := List.getElem_of_mem h
    exact ⟨i, hi, by unfold eAt; rw [List.getD_eq_getElem?_getD, List.getElem?_eq_getElem hi]; exact e⟩
  · rintro ⟨i, hi, e⟩
    unfold eAt at e
    rw [List.getD_eq_getElem?_getD, List.getElem?_eq_getElem hi] at e
    rw [← e]; exact List.getElem_mem hi
theorem eAt_find {es : List Int} (h : es.Pairwise (· < ·)) (t : Int) : (∀ x ∈ es, t < x) ∨ (∀ x ∈ es, x ≤ t) ∨ ∃ i, i < es.length - 1 ∧ eAt es i ≤ t ∧ t < eAt es (i + 1) := by
  have hlt := eAt_lt h
  have key : ∀ n, n < es.length → t < eAt es 0 ∨ eAt es n ≤ t ∨ ∃ i, i < n ∧ eAt es i ≤ t ∧ t < eAt es (i + 1) := by
    intro n
    induction n with
    | zero => intro _; rcases Int.lt_or_le t (eAt es 0) with h | h; exact .inl h; exact .inr (.inl h)
    | succ n ih =>
      intro hn
      rcases ih (by omega) with h | h | ⟨i, hi, h⟩
      · exact .inl h
      · rcases Int.lt_or_le t (eAt es (n + 1)) with h2 | h2
        · exact .inr (.inr ⟨n, by omega, h, h2⟩)
        · exact .inr (.inl h2)
      · exact .inr (.inr ⟨i, by omega, h⟩)
  rcases Nat.eq_zero_or_pos es.length with h0 | h0
  · left
    intro x hx
    rw [List.eq_nil_of_length_eq_zero h0] at hx; cases hx
  · rcases key (es.length - 1) (by omega) with h1 | h1 | ⟨i, hi, h1⟩
    · left
      intro x hx
      obtain ⟨j, hj, e⟩ := eAt_mem.1 hx
      have := asc_le hlt 0 j (by omega) (by omega)
      omega
    · right; left
      intro x hx
      obtain ⟨j, hj, e⟩ := eAt_mem.1 hx
      have := asc_le hlt j (es.length - 1) (by omega) (by omega)
      omega
    · exact .inr (.inr ⟨i, hi, h1⟩)
theorem txE_mem {l : List Rc} {r : Rc} (h : r ∈ l) : r.2.2.1 ∈ txE l ∧ r.2.2.2 ∈ txE l := by
  unfold txE
  exact ⟨List.mem_flatMap.2 ⟨r, h, by simp⟩, List.mem_flatMap.2 ⟨r, h, by simp⟩⟩
/-- between neighbouring ends nothing changes -/
theorem inL_same {es : List Int} (h : es.Pairwise (· < ·)) {l : List Rc} (hl : ∀ x ∈ txE l, x ∈ es) {i : Nat} (hi : i < es.length - 1) {t : Int} (h1 : eAt es i ≤ t) (h2 : t < eAt es (i + 1)) (x : Int) : inL l x t = inL l x (eAt es i) := by
  have hlt := eAt_lt h
  have key : ∀ y ∈ es, y ≤ t ↔ y ≤ eAt es i := fun y hy => by
    obtain ⟨j, hj, e⟩ := eAt_mem.1 hy
    rcases Nat.lt_or_ge i j with h3 | h3
    · have := asc_le hlt (i + 1) j (by omega) (by omega)
      have := hlt i hi
      omega
    · have := asc_le hlt j i (by omega) (by omega)
      omega
  unfold inL
  rw [Bool.eq_iff_iff, List.any_eq_true, List.any_eq_true]
  have e : ∀ r ∈ l, inR r x t = inR r x (eAt es i) := fun r hr => by
    obtain ⟨m1, m2⟩ := txE_mem hr
    have k1 := key _ (hl _ m1)
    have k2 := key _ (hl _ m2)
    unfold inR
    rw [decide_eq_decide.2 k1, show decide (t < r.2.2.2) = decide (eAt es i < r.2.2.2) from decide_eq_decide.2 (by omega)]
  constructor
  · rintro ⟨r, hr, hh⟩; exact ⟨r, hr, by rw [← e r hr]; exact hh⟩
  · rintro ⟨r, hr, hh⟩; exact ⟨r, hr, by rw [e r hr]; exact hh⟩
theorem inL_out {l : List Rc} {t : Int} (h : (∀ x ∈ txE l, t < x) ∨ ∀ x ∈ txE l, x ≤ t) (x : Int) : inL l x t = false := by
  rw [Bool.eq_false_iff]
  intro hh
  unfold inL inR at hh
  rw [List.any_eq_true] at hh
  obtain ⟨r, hr, h1⟩ := hh
  simp only [Bool.and_eq_true, decide_eq_true_eq] at h1
  obtain ⟨m1, m2⟩ := txE_mem hr
  rcases h with h | h
  · have := h _ m1; omega
  · have := h _ m2; omega
/-- segments over ends that hold those of two lists -/
theorem buildG_mem {rule : Bool → Bool → Bool} (h0 : rule false false = false) {a b : List Rc} {es : List Int} (hes : es.Pairwise (· < ·)) (ha : ∀ x ∈ txE a, x ∈ es) (hb : ∀ x ∈ txE b, x ∈ es) {F : Nat → List Sp}
    (hF : ∀ i, i < es.length - 1 → Can (F i) ∧ ∀ x, memB (F i) x = rule (inL a x (eAt es i)) (inL b x (eAt es i))) :
    CanG (buildG (eAt es) F (es.length - 1)) ∧ ∀ x t, memB (setAt (buildG (eAt es) F (es.length - 1)) t) x = rule (inL a x t) (inL b x t) := by
  obtain ⟨g1, g2, g3, g4⟩ := buildG_ok (E := eAt es) (F := F) (n := es.length - 1) (eAt_lt hes) (fun i hi => (hF i hi).1)
  refine ⟨g1, fun x t => ?_⟩
  rcases eAt_find hes t with h | h | ⟨i, hi, h1, h2⟩
  · have e1 : inL a x t = false := inL_out (.inl fun y hy => h y (ha y hy)) x
    have e2 : inL b x t = false := inL_out (.inl fun y hy => h y (hb y hy)) x
    rw [e1, e2, h0]
    rcases Nat.eq_zero_or_pos es.length with hz | hz
    · have : es.length - 1 = 0 := by omega
      rw [this]; rfl
    · rw [g4 t (.inl (h _ (eAt_mem.2 ⟨0, hz, rfl⟩)))]; rfl
  · have e1 : inL a x t = false := inL_out (.inr fun y hy => h y (ha y hy)) x
    have e2 : inL b x t = false := inL_out (.inr fun y hy => h y (hb y hy)) x
    rw [e1, e2, h0]
    rcases Nat.eq_zero_or_pos es.length with hz | hz
    · have : es.length - 1 = 0 := by omega
      rw [this]; rfl
    · rw [g4 t (.inr (h _ (eAt_mem.2 ⟨es.length - 1, by omega, rfl⟩)))]; rfl
  · rw [g3 i hi t h1 h2, (hF i hi).2, inL_same hes ha hi h1 h2, inL_same hes hb hi h1 h2]
theorem opS_ok' {rule : Bool → Bool → Bool} {a b : List Rc} (ha : lvB a = true) (hb : lvB b = true) (hc : ∀ {p q : List Sp}, TimeL p → TimeL q → p.length ≤ 1000 → q.length ≤ 1000 → OpOk rule p q (opS rule p q)) (hla : a.length ≤ 500) (hlb : b.length ≤ 500) (t : Int) :
    Can (opS rule (tS a t) (tS b t)) ∧ (∀ x, memB (opS rule (tS a t) (tS b t)) x = rule (inL a x t) (inL b x t)) ∧ (opS rule (tS a t) (tS b t)).length ≤ a.length + b.length := by
  have := hc (tS_time ha t) (tS_time hb t) (by have := tS_len ha t; omega) (by have := tS_len hb t; omega)
  refine ⟨this.can, fun x => ?_, ?_⟩
  · rw [this.mem, tS_memB ha, tS_memB hb]
  · have := this.len
    have := tS_len ha t
    have := tS_len hb t
    omega
/-- a rule that the program has -/
inductive IsRule : (Bool → Bool → Bool) → Prop where
  | or : IsRule rOr
  | and : IsRule rAnd
  | sub : IsRule rSub
theorem IsRule.ff {rule : Bool → Bool → Bool} (h : IsRule rule) : rule false false = false := by cases h <;> rfl
theorem IsRule.op {rule : Bool → Bool → Bool} (h : IsRule rule) {p q : List Sp} (hp : TimeL p) (hq : TimeL q) (h1 : p.length ≤ 1000) (h2 : q.length ≤ 1000) : OpOk rule p q (opS rule p q) := by
  cases h
  · exact (p_runs_Union hp hq h1 h2).2
  · exact (p_runs_Meet hp hq h1 h2).2
  · exact (p_runs_Minus hp hq h1 h2).2
theorem txE_app (a b : List Rc) : txE (a ++ b) = txE a ++ txE b := by simp [txE]
theorem segC_ok {rule : Bool → Bool → Bool} (hr : IsRule rule) {a b : List Rc} (ha : lvB a = true) (hb : lvB b = true) (hla : a.length ≤ 500) (hlb : b.length ≤ 500) :
    CanG (segC rule a b) ∧ ∀ x t, memB (setAt (segC rule a b) t) x = rule (inL a x t) (inL b x t) := by
  obtain ⟨k1, k2, _⟩ := esOf_ok a b
  refine buildG_mem hr.ff k1 (fun x hx => (k2 x).2 (by rw [txE_app]; exact List.mem_append_left _ hx)) (fun x hx => (k2 x).2 (by rw [txE_app]; exact List.mem_append_right _ hx)) fun i hi => ?_
  have := opS_ok' ha hb hr.op hla hlb (eAt (esOf a b) i)
  exact ⟨this.1, this.2.1⟩
/-- canonical lists with the same pairs are the same -/
theorem uniqL {g g' : List Seg} (h : CanG g) (h' : CanG g') (he : ∀ x t, memB (setAt g t) x = memB (setAt g' t) x) : g = g' := by
  have can : ∀ {g : List Seg}, CanG g → ∀ t, Can (setAt g t) := by
    intro g
    induction g with
    | nil => intro _ t; exact Can.nil
    | cons s g ih =>
      intro h t
      show Can (if s.1 ≤ t ∧ t < s.2.1 then s.2.2 else setAt g t)
      split
      · exact (h.ok s (by simp)).can
      · exact ih h.tail t
  refine uniqG h h' fun t => can_unique (can h t) (can h' t) fun x => ?_
  rw [← memB_iff, ← memB_iff, he]
/-- how long it can be -/
theorem flatG_build_bd {E : Nat → Int} {F : Nat → List Sp} {k : Nat} : ∀ {n : Nat}, (∀ i, i < n → (F i).length ≤ k) → (flatG (buildG E F n)).length ≤ n * k := by
  intro n
  induction n with
  | zero => intro _; simp [buildG, flatG]
  | succ n ih =>
    intro h
    have h1 := ih (fun i hi => h i (by omega))
    have h2 := h n (by omega)
    have h3 : (flatG (addG (buildG E F n) (E n, E (n + 1), F n))).length ≤ (flatG (buildG E F n)).length + (F n).length := by
      by_cases h0 : F n = []
      · rw [addG_none _ h0]; omega
      · rcases snoc_cases (buildG E F n) with h4 | ⟨u, r, h4⟩
        · rw [h4, addG_nil h0, flatG_one, rcs_len]; show (F n).length ≤ _; omega
        · rw [h4, addG_snoc u r h0]
          split
          · rw [flatG_app, flatG_app, flatG_one, flatG_one, List.length_append, List.length_append, rcs_len, rcs_len]
            show _ + r.2.2.length ≤ _ + r.2.2.length + _; omega
          · rw [flatG_app (u ++ [r]), flatG_one, List.length_append, rcs_len]; exact Nat.le_refl _
    show (flatG (addG (buildG E F n) (E n, E (n + 1), F n))).length ≤ (n + 1) * k
    rw [Nat.succ_mul]
    omega
theorem segC_len {rule : Bool → Bool → Bool} (hr : IsRule rule) {a b : List Rc} (ha : lvB a = true) (hb : lvB b = true) (hla : a.length ≤ 500) (hlb : b.length ≤ 500) :
    (flatG (segC rule a b)).length ≤ (2 * (a.length + b.length) - 1) * (a.length + b.length) := by
  have h1 := flatG_build_bd (E := eAt (esOf a b)) (F := fun i => opS rule (tS a (eAt (esOf a b) i)) (tS b (eAt (esOf a b) i))) (k := a.length + b.length) (n := (esOf a b).length - 1) (fun i _ => (opS_ok' ha hb hr.op hla hlb _).2.2)
  have h2 := (esOf_ok a b).2.2
  exact Nat.le_trans h1 (Nat.mul_le_mul_right _ (by omega))
end
section
/-! a number put into an ascending list -/
def insS : List Int → Int → List Int
  | [], x => [x]
  | y :: v, x => if x < y then x :: y :: v else if x = y then y :: v else y :: insS v x
theorem insS_mem {l : List Int} {x y : Int} : y ∈ insS l x ↔ y = x ∨ y ∈ l := by
  induction l with
  | nil => simp [insS]
  | cons z v ih =>
    unfold insS
    split
    · simp
    · split
      · rename_i h; subst h; simp
      · simp only [List.mem_cons, ih]
        constructor
        · rintro (h | h | h) <;> simp [h]
        · rintro (h | h | h) <;> simp [h]
theorem insS_pw {l : List Int} {x : Int} (h : l.Pairwise (· < ·)) : (insS l x).Pairwise (· < ·) := by
  induction l with
  | nil => exact List.pairwise_singleton _ _
  | cons y v ih =>
    obtain ⟨h1, h2⟩ := List.pairwise_cons.1 h
    unfold insS
    split
    · rename_i hx
      refine List.pairwise_cons.2 ⟨fun z hz => ?_, h⟩
      rcases List.mem_cons.1 hz with rfl | hz
      · exact hx
      · have := h1 z hz; omega
    · split
      · exact h
      · refine List.pairwise_cons.2 ⟨fun z hz => ?_, ih h2⟩
        rcases insS_mem.1 hz with rfl | hz
        · omega
        · exact h1 z hz
theorem insS_len {l : List Int} {x : Int} : (insS l x).length ≤ l.length + 1 := by
  induction l with
  | nil => simp [insS]
  | cons y v ih =>
    unfold insS
    split
    · simp
    · split
      · simp
      · simp; omega
theorem insS_split : ∀ {u v : List Int} {x : Int}, (∀ y ∈ u, y < x) → (∀ y ∈ v, x ≤ y) → insS (u ++ v) x = u ++ (match v with | [] => [x] | y :: w => if x = y then y :: w else x :: y :: w) := by
  intro u v x hu hv
  induction u with
  | nil =>
    cases v with
    | nil => rfl
    | cons y w =>
      have := hv y (by simp)
      show insS (y :: w) x = if x = y then y :: w else x :: y :: w
      unfold insS
      by_cases h : x < y
      · rw [if_pos h, if_neg (by omega)]
      · rw [if_neg h]
        have : x = y := by omega
        rw [if_pos this, if_pos this]
  | cons z u ih =>
    have hz := hu z (by simp)
    show insS (z :: (u ++ v)) x = _
    unfold insS
    rw [if_neg (by omega), if_neg (by omega), ih (fun y hy => hu y (by simp [hy]))]
    rfl
/-- many numbers -/
def insL (xs : List Int) : List Int := xs.foldl insS []
theorem insL_fold : ∀ {xs acc : List Int}, acc.Pairwise (· < ·) → (xs.foldl insS acc).Pairwise (· < ·) ∧ (∀ y, y ∈ xs.foldl insS acc ↔ y ∈ acc ∨ y ∈ xs) ∧ (xs.foldl insS acc).length ≤ acc.length + xs.length := by
  intro xs
  induction xs with
  | nil => intro acc h; exact ⟨h, fun y => by simp, by simp⟩
  | cons x xs ih =>
    intro acc h
    obtain ⟨h1, h2, h3⟩ := ih (insS_pw (x := x) h)
    refine ⟨h1, fun y => ?_, ?_⟩
    · rw [List.foldl_cons, h2, insS_mem, List.mem_cons]
      constructor
      · rintro ((h | h) | h) <;> simp [h]
      · rintro (h | h | h) <;> simp [h]
    · have := insS_len (l := acc) (x := x)
      simp only [List.foldl_cons, List.length_cons]; omega
theorem insL_ok (xs : List Int) : (insL xs).Pairwise (· < ·) ∧ (∀ y, y ∈ insL xs ↔ y ∈ xs) ∧ (insL xs).length ≤ xs.length := by
  obtain ⟨h1, h2, h3⟩ := insL_fold (xs := xs) (acc := []) List.Pairwise.nil
  exact ⟨h1, fun y => (h2 y).trans (by simp), by unfold insL; simpa using h3⟩
theorem insL_app (xs ys : List Int) : insL (xs ++ ys) = ys.foldl insS (insL xs) := by unfold insL; rw [List.foldl_append]
theorem asc_unique : ∀ {l l' : List Int}, l.Pairwise (· < ·) → l'.Pairwise (· < ·) → (∀ x, x ∈ l ↔ x ∈ l') → l = l' := by
  intro l
  induction l with
  | nil =>
    intro l' _ _ h
    cases l' with
    | nil => rfl
    | cons y l' => exact absurd ((h y).2 (by simp)) (by simp)
  | cons x l ih =>
    intro l' h h' he
    cases l' with
    | nil => exact absurd ((he x).1 (by simp)) (by simp)
    | cons y l' =>
      obtain ⟨h1, h2⟩ := List.pairwise_cons.1 h
      obtain ⟨h3, h4⟩ := List.pairwise_cons.1 h'
      have exy : x = y := by
        have a := (he x).1 (by simp)
        have b := (he y).2 (by simp)
        rcases List.mem_cons.1 a with a | a
        · exact a
        · rcases List.mem_cons.1 b with b | b
          · exact b.symm
          · have := h1 y b; have := h3 x a; omega
      subst exy
      rw [ih h2 h4 fun z => ?_]
      constructor
      · intro hz
        rcases List.mem_cons.1 ((he z).1 (by simp [hz])) with e | e
        · have := h1 z hz; omega
        · exact e
      · intro hz
        rcases List.mem_cons.1 ((he z).2 (by simp [hz])) with e | e
        · have := h3 z hz; omega
        · exact e
theorem esOf_insL (a b : List Rc) : esOf a b = insL (txE a ++ txE b) := by
  obtain ⟨h1, h2, _⟩ := esOf_ok a b
  obtain ⟨k1, k2, _⟩ := insL_ok (txE a ++ txE b)
  refine asc_unique h1 k1 fun x => ?_
  rw [h2, k2, txE_app]

/-! the reference's put -/
def putS (x : Int) (acc : Bool × List Int) (y : Int) : Bool × List Int :=
  if acc.1 = false ∧ x ≤ y then (true, (if x < y then acc.2 ++ [x] else acc.2) ++ [y]) else (acc.1, acc.2 ++ [y])
theorem putS_done (x : Int) : ∀ (l acc : List Int), l.foldl (putS x) (true, acc) = (true, acc ++ l) := by
  intro l
  induction l with
  | nil => intro acc; simp
  | cons y l ih =>
    intro acc
    rw [List.foldl_cons]
    have : putS x (true, acc) y = (true, acc ++ [y]) := by unfold putS; rw [if_neg (by simp)]
    rw [this, ih]; simp
theorem putS_ins (x : Int) : ∀ (l acc : List Int), (if (l.foldl (putS x) (false, acc)).1 = true then (l.foldl (putS x) (false, acc)).2 else (l.foldl (putS x) (false, acc)).2 ++ [x]) = acc ++ insS l x := by
  intro l
  induction l with
  | nil => intro acc; simp [insS]
  | cons y l ih =>
    intro acc
    rw [List.foldl_cons]
    unfold insS
    by_cases h : x ≤ y
    · have e : putS x (false, acc) y = (true, (if x < y then acc ++ [x] else acc) ++ [y]) := by unfold putS; rw [if_pos ⟨rfl, h⟩]
      rw [e, putS_done]
      simp only [if_true]
      by_cases h2 : x < y
      · rw [if_pos h2, if_pos h2]; simp
      · rw [if_neg h2, if_neg h2, if_pos (by omega)]; simp
    · have e : putS x (false, acc) y = (false, acc ++ [y]) := by unfold putS; rw [if_neg (fun hh => h hh.2)]
      rw [e, ih, if_neg (by omega), if_neg (by omega)]; simp
theorem putS_len (x : Int) : ∀ (l : List Int) (acc : Bool × List Int), (l.foldl (putS x) acc).2.length ≤ acc.2.length + 2 * l.length := by
  intro l
  induction l with
  | nil => intro acc; simp
  | cons y l ih =>
    intro acc
    rw [List.foldl_cons]
    have := ih (putS x acc y)
    have h : (putS x acc y).2.length ≤ acc.2.length + 2 := by
      unfold putS
      split
      · split <;> simp
      · simp
    simp only [List.length_cons]; omega
theorem p_put {l : List Int} (hl : l.length ≤ 1000000) (x : Int) : m_ref35_put std x l = some (insS l x) := by
  have hg : ∀ i, i < l.length → l.take (i + 1) = l.take i ++ [l.getD i 0] := fun i hi => by
    rw [List.take_succ_eq_append_getElem hi, List.getD_eq_getElem?_getD, List.getElem?_eq_getElem hi]; rfl
  have h := loop_to' (B := m_ref35_put_L1 std l x) (n := l.length) (fun i => (((l.take i).foldl (putS x) (false, [])).1, (i : Int), ((l.take i).foldl (putS x) (false, [])).2)) (e := l.foldl (putS x) (false, [])) (by omega) (fun i hi => by
    have hlen := putS_len x (l.take i) (false, [])
    rw [List.length_take] at hlen
    simp only [List.length_nil] at hlen
    rw [hg i hi, List.foldl_append, List.foldl_cons, List.foldl_nil]
    generalize (l.take i).foldl (putS x) (false, []) = acc at *
    obtain ⟨d, acc⟩ := acc
    have hlen : acc.length ≤ 2000000 := by
      simp only at hlen; omega
    rw [m_ref35_put_L1_eq]
    simp only [Int.toNat_natCast]
    obtain ⟨y, hy⟩ : ∃ y, List.getD l i 0 = y := ⟨_, rfl⟩
    simp only [hy]
    refine bT (dT (by omega)) ?_
    unfold putS
    cases d with
    | true =>
      rw [if_neg (by simp)]
      exact bB (v := false) (bF rfl rfl) (bB (v := (true, acc)) (bF rfl rfl) (gX (by omega) (gK hi (gR (by omega) (gR (by simp) (gI (by omega) rfl))))))
    | false =>
      by_cases h1 : x ≤ y
      · rw [if_pos ⟨rfl, h1⟩]
        refine bB (v := true) (bT rfl (gX (by omega) (gK hi (congrArg some (dT h1))))) (bB (v := (true, if x < y then acc ++ [x] else acc)) (bT rfl (gX (by omega) (gK hi ?_))) (gX (by omega) (gK hi (gR ?_ (gR (by simp) (gI (by omega) rfl))))))
        · by_cases h2 : x < y
          · rw [if_pos h2]; exact bB (bT (dT h2) (gR (by omega) (gR (by simp) rfl))) rfl
          · rw [if_neg h2]; exact bB (bF (dF h2) rfl) rfl
        · split <;> simp <;> omega
      · rw [if_neg (fun hh => h1 hh.2)]
        exact bB (v := false) (bT rfl (gX (by omega) (gK hi (congrArg some (dF h1))))) (bB (v := (false, acc)) (bF rfl rfl) (gX (by omega) (gK hi (gR (by omega) (gR (by simp) (gI (by omega) rfl))))))) (by
    rw [m_ref35_put_L1_eq, List.take_length]
    exact bF (dF (by omega)) rfl)
  have h' : loop (m_ref35_put_L1 std l x) (false, 0, ([] : List Int)) = some (l.foldl (putS x) (false, [])) := h
  have hlen := putS_len x l (false, [])
  simp only [List.length_nil] at hlen
  have hq := putS_ins x l []
  rw [List.nil_append] at hq
  rw [m_ref35_put_eq, h', ← hq]
  generalize l.foldl (putS x) (false, []) = acc at *
  obtain ⟨d, acc⟩ := acc
  cases d with
  | true => exact bB rfl (bB (v := acc) (bF rfl rfl) rfl)
  | false => exact bB rfl (bB (v := acc ++ [x]) (bT rfl (gR (by simp only at hlen; omega) (gR (by simp) rfl))) rfl)
/-! ends of rectangles, of spans -/
def spE (l : List Sp) : List Int := l.flatMap fun s => [s.1, s.2]
theorem spE_len (l : List Sp) : (spE l).length = 2 * l.length := by
  unfold spE
  induction l with
  | nil => rfl
  | cons r l ih => rw [List.flatMap_cons, List.length_append, ih]; simp; omega
theorem spE_take {l : List Sp} {i : Nat} (hi : i < l.length) : spE (l.take (i + 1)) = spE (l.take i) ++ [(l.getD i (0, 0)).1, (l.getD i (0, 0)).2] := by
  have e : l.getD i (0, 0) = l[i] := by rw [List.getD_eq_getElem?_getD, List.getElem?_eq_getElem hi]; rfl
  rw [List.take_succ_eq_append_getElem hi, e]
  unfold spE
  rw [List.flatMap_append]; simp
theorem p_ref35_ends_L1 {l : List Rc} {acc : List Int} (hl : l.length ≤ 100000) (ha : acc.length ≤ 200000) : loop (m_ref35_ends_L1 std l) (0, acc) = some ((txE l).foldl insS acc) := by
  have hb : ∀ i, i ≤ l.length → ((txE (l.take i)).foldl insS acc).length ≤ 400000 := fun i hi => by
    have : ∀ (xs a : List Int), (xs.foldl insS a).length ≤ a.length + xs.length := by
      intro xs
      induction xs with
      | nil => intro a; simp
      | cons x xs ih => intro a; have h1 := ih (insS a x); have h2 := insS_len (l := a) (x := x); simp only [List.foldl_cons, List.length_cons]; omega
    have h1 := this (txE (l.take i)) acc
    rw [txE_len, List.length_take] at h1
    omega
  have h := loop_up (B := m_ref35_ends_L1 std l) (n := l.length) (fun i => (txE (l.take i)).foldl insS acc) (e := (txE l).foldl insS acc) (by omega) (fun i hi => by
    have hlen := hb i (by omega)
    rw [txE_take hi, List.foldl_append, m_ref35_ends_L1_eq]
    generalize (txE (l.take i)).foldl insS acc = ac at *
    simp only [Int.toNat_natCast]
    refine bT (dT (by omega)) (gX (by omega) (gK hi (bB (p_put (by omega) _) (bB (p_put (by have := insS_len (l := ac) (x := (l.getD i (0, 0, 0, 0)).2.2.1); omega) _) (gI (by omega) ?_)))))
    rfl) (by
    rw [m_ref35_ends_L1_eq, List.take_length]
    exact bF (dF (by omega)) rfl)
  exact h
theorem p_ref35_ends_L2 {l : List Rc} {acc : List Int} (hl : l.length ≤ 100000) (ha : acc.length ≤ 200000) : loop (m_ref35_ends_L2 std l) (0, acc) = some ((txE l).foldl insS acc) := by
  have hb : ∀ i, i ≤ l.length → ((txE (l.take i)).foldl insS acc).length ≤ 400000 := fun i hi => by
    have : ∀ (xs a : List Int), (xs.foldl insS a).length ≤ a.length + xs.length := by
      intro xs
      induction xs with
      | nil => intro a; simp
      | cons x xs ih => intro a; have h1 := ih (insS a x); have h2 := insS_len (l := a) (x := x); simp only [List.foldl_cons, List.length_cons]; omega
    have h1 := this (txE (l.take i)) acc
    rw [txE_len, List.length_take] at h1
    omega
  have h := loop_up (B := m_ref35_ends_L2 std l) (n := l.length) (fun i => (txE (l.take i)).foldl insS acc) (e := (txE l).foldl insS acc) (by omega) (fun i hi => by
    have hlen := hb i (by omega)
    rw [txE_take hi, List.foldl_append, m_ref35_ends_L2_eq]
    generalize (txE (l.take i)).foldl insS acc = ac at *
    simp only [Int.toNat_natCast]
    refine bT (dT (by omega)) (gX (by omega) (gK hi (bB (p_put (by omega) _) (bB (p_put (by have := insS_len (l := ac) (x := (l.getD i (0, 0, 0, 0)).2.2.1); omega) _) (gI (by omega) ?_)))))
    rfl) (by
    rw [m_ref35_ends_L2_eq, List.take_length]
    exact bF (dF (by omega)) rfl)
  exact h
theorem p_ref35_mix_L1 {l : List Sp} {acc : List Int} (hl : l.length ≤ 100000) (ha : acc.length ≤ 200000) : loop (m_ref35_mix_L1 std l) (0, acc) = some ((spE l).foldl insS acc) := by
  have hb : ∀ i, i ≤ l.length → ((spE (l.take i)).foldl insS acc).length ≤ 400000 := fun i hi => by
    have : ∀ (xs a : List Int), (xs.foldl insS a).length ≤ a.length + xs.length := by
      intro xs
      induction xs with
      | nil => intro a; simp
      | cons x xs ih => intro a; have h1 := ih (insS a x); have h2 := insS_len (l := a) (x := x); simp only [List.foldl_cons, List.length_cons]; omega
    have h1 := this (spE (l.take i)) acc
    rw [spE_len, List.length_take] at h1
    omega
  have h := loop_up (B := m_ref35_mix_L1 std l) (n := l.length) (fun i => (spE (l.take i)).foldl insS acc) (e := (spE l).foldl insS acc) (by omega) (fun i hi => by
    have hlen := hb i (by omega)
    rw [spE_take hi, List.foldl_append, m_ref35_mix_L1_eq]
    generalize (spE (l.take i)).foldl insS acc = ac at *
    simp only [Int.toNat_natCast]
    refine bT (dT (by omega)) (gX (by omega) (gK hi (bB (p_put (by omega) _) (bB (p_put (by have := insS_len (l := ac) (x := (l.getD i (0, 0)).1); omega) _) (gI (by omega) ?_)))))
    rfl) (by
    rw [m_ref35_mix_L1_eq, List.take_length]
    exact bF (dF (by omega)) rfl)
  exact h
theorem p_ref35_mix_L2 {l : List Sp} {acc : List Int} (hl : l.length ≤ 100000) (ha : acc.length ≤ 200000) : loop (m_ref35_mix_L2 std l) (0, acc) = some ((spE l).foldl insS acc) := by
  have hb : ∀ i, i ≤ l.length → ((spE (l.take i)).foldl insS acc).length ≤ 400000 := fun i hi => by
    have : ∀ (xs a : List Int), (xs.foldl insS a).length ≤ a.length + xs.length := by
      intro xs
      induction xs with
      | nil => intro a; simp
      | cons x xs ih => intro a; have h1 := ih (insS a x); have h2 := insS_len (l := a) (x := x); simp only [List.foldl_cons, List.length_cons]; omega
    have h1 := this (spE (l.take i)) acc
    rw [spE_len, List.length_take] at h1
    omega
  have h := loop_up (B := m_ref35_mix_L2 std l) (n := l.length) (fun i => (spE (l.take i)).foldl insS acc) (e := (spE l).foldl insS acc) (by omega) (fun i hi => by
    have hlen := hb i (by omega)
    rw [spE_take hi, List.foldl_append, m_ref35_mix_L2_eq]
    generalize (spE (l.take i)).foldl insS acc = ac at *
    simp only [Int.toNat_natCast]
    refine bT (dT (by omega)) (gX (by omega) (gK hi (bB (p_put (by omega) _) (bB (p_put (by have := insS_len (l := ac) (x := (l.getD i (0, 0)).1); omega) _) (gI (by omega) ?_)))))
    rfl) (by
    rw [m_ref35_mix_L2_eq, List.take_length]
    exact bF (dF (by omega)) rfl)
  exact h
theorem p_ends (a b : List Rc) (ha : a.length ≤ 50000) (hb : b.length ≤ 50000) : m_ref35_ends std a b = some (esOf a b) := by
  have h1 := (insL_ok (txE a)).2.2
  rw [txE_len] at h1
  rw [m_ref35_ends_eq, esOf_insL, insL_app]
  exact bB (p_ref35_ends_L1 (by omega) (by simp)) (bB (p_ref35_ends_L2 (by omega) (by show (insL (txE a)).length ≤ _; omega)) rfl)
end
section
/-- a loop that looks whether all elements pass -/
theorem p_all {α : Type} {d : α} {l : List α} {p : α → Bool} {B : Int → Option (Int ⊕ (Unit ⊕ Unit))} (hl : l.length ≤ 1099511627776)
    (h1 : ∀ i, i < l.length → B (i : Int) = if p (l.getD i d) = true then some (.inl ((i + 1 : Nat) : Int)) else some (.inr (.inl ()))) (h0 : B (l.length : Int) = some (.inr (.inr ()))) :
    loop B 0 = some (if l.all p = true then .inr () else .inl ()) := by
  have h2 := loop_first (B := B) (n := l.length) (p := fun i => p (l.getD i d)) (e1 := fun _ => .inl ()) (e0 := .inr ()) (by omega)
    (fun i hi hp => by rw [h1 i hi, if_pos hp]) (fun i hi hp => by rw [h1 i hi, if_neg (by rw [hp]; decide)]) h0
  rcases h2 with ⟨h3, h4⟩ | ⟨k, h3, h4, _, h5⟩
  · rw [h4, if_pos ((all_get d l p).2 h3)]
  · have : l.all p = false := by
      rw [Bool.eq_false_iff]
      intro h
      rw [(all_get d l p).1 h k h3] at h4; cases h4
    rw [h5, this]; rfl
theorem p_ref35_List (l : List Rc) (hl : l.length ≤ 1000000) : m_ref35_List std l = some (lvB l) := by
  have h := p_all (d := ((0, 0, 0, 0) : Rc)) (l := l) (p := vrB) (B := m_ref35_List_L1 std l) (by omega) (fun i hi => by
    rw [m_ref35_List_L1_eq]
    simp only [Int.toNat_natCast]
    rw [p_ref35_Valid]
    refine bT (dT (by omega)) (gX (by omega) (gK hi (bB rfl ?_)))
    cases vrB (List.getD l i (0, 0, 0, 0)) with
    | true => exact bF rfl (gI (by omega) rfl)
    | false => rfl) (by rw [m_ref35_List_L1_eq]; exact bF (dF (by omega)) rfl)
  rw [m_ref35_List_eq, h]
  show _ = some (l.all vrB)
  cases l.all vrB <;> rfl
theorem p_Spans (l : List Sp) (hl : l.length ≤ 1000000) : m_ref12_Spans std l = some (spsB l) := by
  have h := p_all (d := ((0, 0) : Sp)) (l := l) (p := fun s => svB s.1 s.2) (B := m_ref12_Spans_L1 std l) (by omega) (fun i hi => by
    rw [m_ref12_Spans_L1_eq]
    simp only [Int.toNat_natCast]
    rw [p_ref12_Span]
    refine bT (dT (by omega)) (gX (by omega) (gK hi (bB rfl ?_)))
    cases svB (List.getD l i (0, 0)).1 (List.getD l i (0, 0)).2 with
    | true => exact bF rfl (gI (by omega) rfl)
    | false => rfl) (by rw [m_ref12_Spans_L1_eq]; exact bF (dF (by omega)) rfl)
  rw [m_ref12_Spans_eq, h]
  show _ = some (l.all fun s => svB s.1 s.2)
  cases l.all fun s => svB s.1 s.2 <;> rfl
theorem p_In (l : List Sp) (hl : l.length ≤ 1000000) (x : Int) : m_ref12_In std x l = some (memB l x) := by
  have h := p_all (d := ((0, 0) : Sp)) (l := l) (p := fun s => !(decide (s.1 ≤ x) && decide (x < s.2))) (B := m_ref12_In_L1 std l x) (by omega) (fun i hi => by
    rw [m_ref12_In_L1_eq]
    simp only [Int.toNat_natCast]
    obtain ⟨s, hs⟩ : ∃ s, List.getD l i (0, 0) = s := ⟨_, rfl⟩
    simp only [hs]
    refine bT (dT (by omega)) ?_
    by_cases h1 : s.1 ≤ x
    · by_cases h2 : x < s.2
      · rw [if_neg (by simp [h1, h2])]
        exact bB (v := true) (bT (dT h1) (gX (by omega) (gK hi (congrArg some (dT h2))))) (bT rfl rfl)
      · rw [if_pos (by simp [h1, h2])]
        exact bB (v := false) (bT (dT h1) (gX (by omega) (gK hi (congrArg some (dF h2))))) (bF rfl (gI (by omega) rfl))
    · rw [if_pos (by simp [h1])]
      exact bB (v := false) (bF (dF h1) (gX (by omega) (gK hi rfl))) (bF rfl (gI (by omega) rfl))) (by rw [m_ref12_In_L1_eq]; exact bF (dF (by omega)) rfl)
  rw [m_ref12_In_eq, h]
  have : (l.all fun s => !(decide (s.1 ≤ x) && decide (x < s.2))) = !memB l x := by
    unfold memB
    rw [List.all_eq_not_any_not]; simp
  rw [this]
  cases memB l x <;> rfl
theorem p_Same (a b : List Sp) (ha : a.length ≤ 1000000) : m_ref12_Same std a b = some (decide (a = b)) := by
  rw [m_ref12_Same_eq]
  refine p_equal (d := ((0, 0) : Sp)) (by omega) (fun hn i hi => ?_) (by rw [m_ref12_Same_L1_eq]; exact bF (dF (by omega)) rfl)
  rw [m_ref12_Same_L1_eq]
  simp only [Int.toNat_natCast]
  obtain ⟨⟨x1, x2⟩, hx⟩ : ∃ x : Sp, List.getD a i (0, 0) = x := ⟨_, rfl⟩
  obtain ⟨⟨y1, y2⟩, hy⟩ : ∃ x : Sp, List.getD b i (0, 0) = x := ⟨_, rfl⟩
  simp only [hx, hy]
  refine bT (dT (by omega)) ?_
  by_cases h1 : x1 = y1
  · by_cases h2 : x2 = y2
    · subst h1; subst h2
      rw [if_pos (by simp)]
      exact bB (v := false) (bF (by simp) (gX (by omega) (gK hi (gX (by omega) (gK (by omega) (congrArg some (by simp))))))) (bF rfl (gI (by omega) rfl))
    · rw [if_neg (by simp [h2])]
      exact bB (v := true) (bF (by simp [h1]) (gX (by omega) (gK hi (gX (by omega) (gK (by omega) (congrArg some (by simp [h2]))))))) (bT rfl rfl)
  · rw [if_neg (by simp [h1])]
    exact bB (v := true) (bT (by simp [h1]) (gX (by omega) (gK hi (gX (by omega) (gK (by omega) rfl))))) (bT rfl rfl)

/-! ascending ends, by insertion from behind -/
theorem asc_split (l : List Int) (h : l.Pairwise (· < ·)) (x : Int) {i : Nat} (hi : i ≤ l.length) (h1 : ∀ j, i ≤ j → j < l.length → x ≤ l.getD j 0) (h2 : i = 0 ∨ l.getD (i - 1) 0 < x) :
    (∀ y ∈ l.take i, y < x) ∧ (∀ y ∈ l.drop i, x ≤ y) := by
  have g : ∀ (j : Nat) (hj : j < l.length), l.getD j 0 = l[j] := fun j hj => by rw [List.getD_eq_getElem?_getD, List.getElem?_eq_getElem hj]; rfl
  constructor
  · intro y hy
    obtain ⟨j, hj, e⟩ := List.getElem_of_mem hy
    rw [List.length_take] at hj
    rw [List.getElem_take] at e
    rcases h2 with h2 | h2
    · omega
    · rw [g (i - 1) (by omega)] at h2
      rcases Nat.lt_or_ge j (i - 1) with h3 | h3
      · have := List.pairwise_iff_getElem.1 h j (i - 1) (by omega) (by omega) h3
        omega
      · have : j = i - 1 := by omega
        subst this
        omega
  · intro y hy
    obtain ⟨j, hj, e⟩ := List.getElem_of_mem hy
    rw [List.length_drop] at hj
    rw [List.getElem_drop] at e
    have := h1 (i + j) (by omega) (by omega)
    rw [g (i + j) (by omega)] at this
    omega
theorem p_ref12_Ends_L1 {l : List Int} (hl : l.length ≤ 1000000) (sp : List Sp) (k : Nat) : ∃ i : Nat, loop (m_ref12_Ends_L1 std (k : Int) l sp) ((l.length : Nat) : Int) = some (i : Int) ∧ i ≤ l.length ∧ (∀ j, i ≤ j → j < l.length → (sp.getD k (0, 0)).1 ≤ l.getD j 0) ∧ (i = 0 ∨ l.getD (i - 1) 0 < (sp.getD k (0, 0)).1) := by
  obtain ⟨e, h1, h2⟩ := loop_is (B := m_ref12_Ends_L1 std (k : Int) l sp) (y := ((l.length : Nat) : Int)) (fun y => ∃ i : Nat, y = (i : Int) ∧ i ≤ l.length ∧ ∀ j, i ≤ j → j < l.length → (sp.getD k (0, 0)).1 ≤ l.getD j 0) (fun y => y.toNat)
    (fun e => ∃ i : Nat, e = (i : Int) ∧ i ≤ l.length ∧ (∀ j, i ≤ j → j < l.length → (sp.getD k (0, 0)).1 ≤ l.getD j 0) ∧ (i = 0 ∨ l.getD (i - 1) 0 < (sp.getD k (0, 0)).1)) ⟨l.length, rfl, Nat.le_refl _, fun j h1 h2 => by omega⟩ (by show Int.toNat _ < _; omega) (by
      rintro y ⟨i, rfl, hi, hj⟩
      rw [m_ref12_Ends_L1_eq]
      rcases Nat.eq_zero_or_pos i with h0 | h0
      · subst h0
        exact ⟨.inr 0, bB (v := false) (bF (dF (by omega)) rfl) (bF rfl rfl), 0, rfl, hi, hj, .inl rfl⟩
      · have e1 : Int.toNat ((i : Int) - 1) = i - 1 := by omega
        simp only [e1, Int.toNat_natCast]
        by_cases hx : (sp.getD k (0, 0)).1 ≤ l.getD (i - 1) 0
        · refine ⟨.inl ((i - 1 : Nat) : Int), ?_, ⟨i - 1, rfl, by omega, fun j h1 h2 => ?_⟩, ?_⟩
          · refine bB (v := true) (bT (dT (by omega)) (gI (by omega) (gX (by omega) (gK (by omega) (congrArg some (dT hx)))))) (bT rfl (gI (by omega) ?_))
            show some (Sum.inl _) = some (Sum.inl _)
            congr 2; omega
          · rcases Nat.lt_or_ge j i with h3 | h3
            · have : j = i - 1 := by omega
              subst this; exact hx
            · exact hj j h3 h2
          · show Int.toNat ((i - 1 : Nat) : Int) < Int.toNat (i : Int)
            omega
        · exact ⟨.inr (i : Int), bB (v := false) (bT (dT (by omega)) (gI (by omega) (gX (by omega) (gK (by omega) (congrArg some (dF hx)))))) (bF rfl rfl), i, rfl, hi, hj, .inr (by omega)⟩)
  obtain ⟨i, rfl, h3⟩ := h2
  exact ⟨i, h1, h3⟩
theorem p_ref12_Ends_L1_ins {l : List Int} (hs : l.Pairwise (· < ·)) (hl : l.length ≤ 1000000) (sp : List Sp) (k : Nat) :
    (Option.bind (loop (m_ref12_Ends_L1 std (k : Int) l sp) (((List.length l) : Nat) : Int)) fun i30 =>
      Option.bind (
        bif (decide (i30 < (((List.length l) : Nat) : Int))) then
          grd (okIdx i30 ((List.length l))) <|
          grd (okKin ((Int.toNat i30)) ((List.length l))) <|
          (some ((List.getD l (Int.toNat i30) 0) == (List.getD sp (Int.toNat (k : Int)) (0, 0)).1))
        else
          (some false) : Option ((Bool))) fun x94 =>
      bif x94 then
        (some l)
      else
        grd (okRng i30 ((List.length l))) <|
        grd (okRoom ((List.length ([] : List Int)))) <|
        grd (okRoom ((List.length (List.take ((Int.toNat i30) - 0) (List.drop 0 l))))) <|
        grd (okRoom ((List.length (([] : List Int) ++ (List.take ((Int.toNat i30) - 0) (List.drop 0 l)))))) <|
        grd (okRoom ((List.length [(List.getD sp (Int.toNat (k : Int)) (0, 0)).1]))) <|
        grd (okRoom ((List.length ((([] : List Int) ++ (List.take ((Int.toNat i30) - 0) (List.drop 0 l))) ++ [(List.getD sp (Int.toNat (k : Int)) (0, 0)).1])))) <|
        grd (okRoom ((List.length (List.take ((List.length l) - (Int.toNat i30)) (List.drop (Int.toNat i30) l))))) <|
        (some (((([] : List Int) ++ (List.take ((Int.toNat i30) - 0) (List.drop 0 l))) ++ [(List.getD sp (Int.toNat (k : Int)) (0, 0)).1]) ++ (List.take ((List.length l) - (Int.toNat i30)) (List.drop (Int.toNat i30) l)))) : Option (List Int)) = some (insS l (sp.getD k (0, 0)).1) := by
  obtain ⟨i, e, hi, h1, h2⟩ := p_ref12_Ends_L1 hl sp k
  obtain ⟨s1, s2⟩ := asc_split l hs _ hi h1 h2
  have hins := insS_split s1 s2
  rw [List.take_append_drop] at hins
  refine bB e ?_
  simp only [Int.toNat_natCast, Nat.sub_zero, List.drop_zero, List.nil_append]
  rw [hins]
  by_cases hlt : i < l.length
  · have hd : l.drop i = l.getD i 0 :: l.drop (i + 1) := by
      rw [List.drop_eq_getElem_cons hlt, List.getD_eq_getElem?_getD, List.getElem?_eq_getElem hlt]; rfl
    by_cases hx : (sp.getD k (0, 0)).1 = l.getD i 0
    · refine bB (v := true) (bT (dT (by omega)) (gX (by omega) (gK hlt (congrArg some (eT hx.symm))))) (bT rfl ?_)
      rw [hd]
      simp only []
      rw [if_pos hx, ← hd, List.take_append_drop]
    · refine bB (v := false) (bT (dT (by omega)) (gX (by omega) (gK hlt (congrArg some (eF (fun e => hx e.symm)))))) (bF rfl (gG (by omega) (gR (by simp) (gR (by simp; omega) (gR (by simp; omega) (gR (by simp) (gR (by simp; omega) (gR (by simp; omega) ?_))))))))
      have ht : List.take (l.length - i) (l.drop i) = l.drop i := List.take_of_length_le (by simp)
      rw [ht, hd]
      simp only []
      rw [if_neg hx]; simp
  · have hil : i = l.length := by omega
    refine bB (v := false) (bF (dF (by omega)) rfl) (bF rfl (gG (by omega) (gR (by simp) (gR (by simp; omega) (gR (by simp; omega) (gR (by simp) (gR (by simp; omega) (gR (by simp; omega) ?_))))))))
    subst hil
    simp
theorem p_ref12_Ends_L2 {l : List Int} (hl : l.length ≤ 1000000) (sp : List Sp) (k : Nat) : ∃ i : Nat, loop (m_ref12_Ends_L2 std (k : Int) l sp) ((l.length : Nat) : Int) = some (i : Int) ∧ i ≤ l.length ∧ (∀ j, i ≤ j → j < l.length → (sp.getD k (0, 0)).2 ≤ l.getD j 0) ∧ (i = 0 ∨ l.getD (i - 1) 0 < (sp.getD k (0, 0)).2) := by
  obtain ⟨e, h1, h2⟩ := loop_is (B := m_ref12_Ends_L2 std (k : Int) l sp) (y := ((l.length : Nat) : Int)) (fun y => ∃ i : Nat, y = (i : Int) ∧ i ≤ l.length ∧ ∀ j, i ≤ j → j < l.length → (sp.getD k (0, 0)).2 ≤ l.getD j 0) (fun y => y.toNat)
    (fun e => ∃ i : Nat, e = (i : Int) ∧ i ≤ l.length ∧ (∀ j, i ≤ j → j < l.length → (sp.getD k (0, 0)).2 ≤ l.getD j 0) ∧ (i = 0 ∨ l.getD (i - 1) 0 < (sp.getD k (0, 0)).2)) ⟨l.length, rfl, Nat.le_refl _, fun j h1 h2 => by omega⟩ (by show Int.toNat _ < _; omega) (by
      rintro y ⟨i, rfl, hi, hj⟩
      rw [m_ref12_Ends_L2_eq]
      rcases Nat.eq_zero_or_pos i with h0 | h0
      · subst h0
        exact ⟨.inr 0, bB (v := false) (bF (dF (by omega)) rfl) (bF rfl rfl), 0, rfl, hi, hj, .inl rfl⟩
      · have e1 : Int.toNat ((i : Int) - 1) = i - 1 := by omega
        simp only [e1, Int.toNat_natCast]
        by_cases hx : (sp.getD k (0, 0)).2 ≤ l.getD (i - 1) 0
        · refine ⟨.inl ((i - 1 : Nat) : Int), ?_, ⟨i - 1, rfl, by omega, fun j h1 h2 => ?_⟩, ?_⟩
          · refine bB (v := true) (bT (dT (by omega)) (gI (by omega) (gX (by omega) (gK (by omega) (congrArg some (dT hx)))))) (bT rfl (gI (by omega) ?_))
            show some (Sum.inl _) = some (Sum.inl _)
            congr 2; omega
          · rcases Nat.lt_or_ge j i with h3 | h3
            · have : j = i - 1 := by omega
              subst this; exact hx
            · exact hj j h3 h2
          · show Int.toNat ((i - 1 : Nat) : Int) < Int.toNat (i : Int)
            omega
        · exact ⟨.inr (i : Int), bB (v := false) (bT (dT (by omega)) (gI (by omega) (gX (by omega) (gK (by omega) (congrArg some (dF hx)))))) (bF rfl rfl), i, rfl, hi, hj, .inr (by omega)⟩)
  obtain ⟨i, rfl, h3⟩ := h2
  exact ⟨i, h1, h3⟩
theorem p_ref12_Ends_L2_ins {l : List Int} (hs : l.Pairwise (· < ·)) (hl : l.length ≤ 1000000) (sp : List Sp) (k : Nat) :
    (Option.bind (loop (m_ref12_Ends_L2 std (k : Int) l sp) (((List.length l) : Nat) : Int)) fun i30 =>
      Option.bind (
        bif (decide (i30 < (((List.length l) : Nat) : Int))) then
          grd (okIdx i30 ((List.length l))) <|
          grd (okKin ((Int.toNat i30)) ((List.length l))) <|
          (some ((List.getD l (Int.toNat i30) 0) == (List.getD sp (Int.toNat (k : Int)) (0, 0)).2))
        else
          (some false) : Option ((Bool))) fun x94 =>
      bif x94 then
        (some l)
      else
        grd (okRng i30 ((List.length l))) <|
        grd (okRoom ((List.length ([] : List Int)))) <|
        grd (okRoom ((List.length (List.take ((Int.toNat i30) - 0) (List.drop 0 l))))) <|
        grd (okRoom ((List.length (([] : List Int) ++ (List.take ((Int.toNat i30) - 0) (List.drop 0 l)))))) <|
        grd (okRoom ((List.length [(List.getD sp (Int.toNat (k : Int)) (0, 0)).2]))) <|
        grd (okRoom ((List.length ((([] : List Int) ++ (List.take ((Int.toNat i30) - 0) (List.drop 0 l))) ++ [(List.getD sp (Int.toNat (k : Int)) (0, 0)).2])))) <|
        grd (okRoom ((List.length (List.take ((List.length l) - (Int.toNat i30)) (List.drop (Int.toNat i30) l))))) <|
        (some (((([] : List Int) ++ (List.take ((Int.toNat i30) - 0) (List.drop 0 l))) ++ [(List.getD sp (Int.toNat (k : Int)) (0, 0)).2]) ++ (List.take ((List.length l) - (Int.toNat i30)) (List.drop (Int.toNat i30) l)))) : Option (List Int)) = some (insS l (sp.getD k (0, 0)).2) := by
  obtain ⟨i, e, hi, h1, h2⟩ := p_ref12_Ends_L2 hl sp k
  obtain ⟨s1, s2⟩ := asc_split l hs _ hi h1 h2
  have hins := insS_split s1 s2
  rw [List.take_append_drop] at hins
  refine bB e ?_
  simp only [Int.toNat_natCast, Nat.sub_zero, List.drop_zero, List.nil_append]
  rw [hins]
  by_cases hlt : i < l.length
  · have hd : l.drop i = l.getD i 0 :: l.drop (i + 1) := by
      rw [List.drop_eq_getElem_cons hlt, List.getD_eq_getElem?_getD, List.getElem?_eq_getElem hlt]; rfl
    by_cases hx : (sp.getD k (0, 0)).2 = l.getD i 0
    · refine bB (v := true) (bT (dT (by omega)) (gX (by omega) (gK hlt (congrArg some (eT hx.symm))))) (bT rfl ?_)
      rw [hd]
      simp only []
      rw [if_pos hx, ← hd, List.take_append_drop]
    · refine bB (v := false) (bT (dT (by omega)) (gX (by omega) (gK hlt (congrArg some (eF (fun e => hx e.symm)))))) (bF rfl (gG (by omega) (gR (by simp) (gR (by simp; omega) (gR (by simp; omega) (gR (by simp) (gR (by simp; omega) (gR (by simp; omega) ?_))))))))
      have ht : List.take (l.length - i) (l.drop i) = l.drop i := List.take_of_length_le (by simp)
      rw [ht, hd]
      simp only []
      rw [if_neg hx]; simp
  · have hil : i = l.length := by omega
    refine bB (v := false) (bF (dF (by omega)) rfl) (bF rfl (gG (by omega) (gR (by simp) (gR (by simp; omega) (gR (by simp; omega) (gR (by simp) (gR (by simp; omega) (gR (by simp; omega) ?_))))))))
    subst hil
    simp
theorem p_ref12_Ends {l : List Sp} (hl : l.length ≤ 100000) : m_ref12_Ends std l = some (insL (spE l)) := by
  have h := loop_up (B := m_ref12_Ends_L3 std l) (n := l.length) (fun i => insL (spE (l.take i))) (e := insL (spE l)) (by omega) (fun i hi => by
    obtain ⟨a1, _, a3⟩ := insL_ok (spE (l.take i))
    rw [spE_len, List.length_take] at a3
    rw [spE_take hi, insL_app, m_ref12_Ends_L3_eq]
    generalize insL (spE (l.take i)) = acc at *
    have b1 := insS_pw (x := (l.getD i (0, 0)).1) a1
    have b2 := insS_len (l := acc) (x := (l.getD i (0, 0)).1)
    refine bT (dT (by omega)) (bB (gX (by omega) (gK (by omega) (p_ref12_Ends_L1_ins a1 (by omega) l i))) (bB (p_ref12_Ends_L2_ins b1 (by omega) l i) (gI (by omega) rfl)))) (by
    rw [m_ref12_Ends_L3_eq, List.take_length]
    exact bF (dF (by omega)) rfl)
  have h' : loop (m_ref12_Ends_L3 std l) (0, ([] : List Int)) = some (insL (spE l)) := h
  rw [m_ref12_Ends_eq, h']; rfl
end
section
theorem spE_mem {l : List Sp} {s : Sp} (h : s ∈ l) : s.1 ∈ spE l ∧ s.2 ∈ spE l := by
  unfold spE
  exact ⟨List.mem_flatMap.2 ⟨s, h, by simp⟩, List.mem_flatMap.2 ⟨s, h, by simp⟩⟩
theorem memB_same {es : List Int} (h : es.Pairwise (· < ·)) {l : List Sp} (hl : ∀ x ∈ spE l, x ∈ es) {i : Nat} (hi : i < es.length - 1) {t : Int} (h1 : eAt es i ≤ t) (h2 : t < eAt es (i + 1)) : memB l t = memB l (eAt es i) := by
  have hlt := eAt_lt h
  have key : ∀ y ∈ es, y ≤ t ↔ y ≤ eAt es i := fun y hy => by
    obtain ⟨j, hj, e⟩ := eAt_mem.1 hy
    rcases Nat.lt_or_ge i j with h3 | h3
    · have := asc_le hlt (i + 1) j (by omega) (by omega)
      have := hlt i hi
      omega
    · have := asc_le hlt j i (by omega) (by omega)
      omega
  rw [Bool.eq_iff_iff, memB_iff, memB_iff]
  constructor
  · rintro ⟨s, hs, a, b⟩
    obtain ⟨m1, m2⟩ := spE_mem hs
    have := key _ (hl _ m1)
    have := key _ (hl _ m2)
    exact ⟨s, hs, by omega, by omega⟩
  · rintro ⟨s, hs, a, b⟩
    obtain ⟨m1, m2⟩ := spE_mem hs
    have := key _ (hl _ m1)
    have := key _ (hl _ m2)
    exact ⟨s, hs, by omega, by omega⟩
theorem memB_out {l : List Sp} {t : Int} (h : (∀ x ∈ spE l, t < x) ∨ ∀ x ∈ spE l, x ≤ t) : memB l t = false := by
  rw [memB_false]
  rintro ⟨s, hs, a, b⟩
  obtain ⟨m1, m2⟩ := spE_mem hs
  rcases h with h | h
  · have := h _ m1; omega
  · have := h _ m2; omega
theorem cut_ok {rule : Bool → Bool → Bool} (h0 : rule false false = false) {a b : List Sp} {es : List Int} (hes : es.Pairwise (· < ·)) (ha : ∀ x ∈ spE a, x ∈ es) (hb : ∀ x ∈ spE b, x ∈ es) :
    Can (cutL (R2 rule a b) (eAt es) (es.length - 1)) ∧ ∀ x, Mem (cutL (R2 rule a b) (eAt es) (es.length - 1)) x ↔ R2 rule a b x = true := by
  have hlt := eAt_lt hes
  obtain ⟨c1, _, c3⟩ := cutL_ok (f := R2 rule a b) (c := eAt es) (n := es.length - 1) (fun i hi => Int.le_of_lt (hlt i hi)) (fun i hi x h1 h2 => by
    unfold R2; rw [memB_same hes ha hi h1 h2, memB_same hes hb hi h1 h2])
  refine ⟨c1, fun x => (c3 x).trans ⟨fun h => h.2.2, fun h => ?_⟩⟩
  rcases eAt_find hes x with h1 | h1 | ⟨i, hi, h1, h2⟩
  · exfalso
    unfold R2 at h
    rw [memB_out (.inl fun y hy => h1 y (ha y hy)), memB_out (.inl fun y hy => h1 y (hb y hy)), h0] at h; cases h
  · exfalso
    unfold R2 at h
    rw [memB_out (.inr fun y hy => h1 y (ha y hy)), memB_out (.inr fun y hy => h1 y (hb y hy)), h0] at h; cases h
  · have := asc_le hlt 0 i (by omega) (by omega)
    have := asc_le hlt (i + 1) (es.length - 1) (by omega) (Nat.le_refl _)
    exact ⟨by omega, by omega, h⟩
theorem addS_len (l : List Sp) (s : Sp) : (addS l s).length ≤ l.length + 1 := by
  rcases snoc_cases l with rfl | ⟨u, t, rfl⟩
  · simp [addS_nil]
  · rw [addS_snoc]; split <;> simp
theorem cutL_len (f : Int → Bool) (c : Nat → Int) : ∀ n, (cutL f c n).length ≤ n := by
  intro n
  induction n with
  | zero => simp [cutL]
  | succ n ih =>
    unfold cutL
    split
    · have := addS_len (cutL f c n) (c n, c (n + 1)); omega
    · omega
theorem cutL_succ {f : Int → Bool} {c : Nat → Int} {n : Nat} (h : c n < c (n + 1)) : cutL f c (n + 1) = if f (c n) = true then addS (cutL f c n) (c n, c (n + 1)) else cutL f c n := by
  show (if f (c n) = true ∧ c n < c (n + 1) then _ else _) = _
  by_cases hf : f (c n) = true
  · rw [if_pos ⟨hf, h⟩, if_pos hf]
  · rw [if_neg (fun hh => hf hh.1), if_neg hf]
theorem p_keep (a b : Bool) : m_ref12_keep std 1 a b = some (rOr a b) := by rw [m_ref12_keep_eq]; cases a <;> cases b <;> rfl
theorem p_ref12_Combine_L1 {a b : List Sp} (ha : a.length ≤ 100000) (hb : b.length ≤ 100000) {es : List Int} (hes : es.Pairwise (· < ·)) (hn : es.length ≤ 1000000) :
    loop (m_ref12_Combine_L1 std a b 1 es) (0, ([] : List Sp)) = some (cutL (R2 rOr a b) (eAt es) (es.length - 1)) := by
  have hlt := eAt_lt hes
  have h := loop_up (B := m_ref12_Combine_L1 std a b 1 es) (n := es.length - 1) (fun i => cutL (R2 rOr a b) (eAt es) i) (e := cutL (R2 rOr a b) (eAt es) (es.length - 1)) (by omega) (fun i hi => by
    have hlen := cutL_len (R2 rOr a b) (eAt es) i
    rw [cutL_succ (hlt i hi), m_ref12_Combine_L1_eq]
    generalize cutL (R2 rOr a b) (eAt es) i = acc at *
    have e1 : Int.toNat (i : Int) = i := Int.toNat_natCast i
    have e2 : Int.toNat ((i : Int) + 1) = i + 1 := by omega
    have g1 : List.getD es i 0 = eAt es i := rfl
    have g2 : List.getD es (i + 1) 0 = eAt es (i + 1) := rfl
    simp only [e1, e2, g1, g2]
    refine gI (by omega) (bT (dT (by omega)) (gX (by omega) (gK (by omega) (bB (p_In a (by omega) _) (bB (p_In b (by omega) _) (bB (p_keep _ _) ?_))))))
    have hR : R2 rOr a b (eAt es i) = rOr (memB a (eAt es i)) (memB b (eAt es i)) := rfl
    rw [hR]
    cases rOr (memB a (eAt es i)) (memB b (eAt es i)) with
    | false => exact bB (v := acc) (bF rfl rfl) rfl
    | true =>
      refine bB (v := addS acc (eAt es i, eAt es (i + 1))) (bT rfl (bB (v := addS acc (eAt es i, eAt es (i + 1))) (gX (by omega) (gK (by omega) ?_)) rfl)) (by rw [if_pos rfl]; rfl)
      rcases snoc_cases acc with rfl | ⟨u, t, rfl⟩
      · exact bB (v := false) (bF (dF (by simp)) rfl) (bF rfl (gR (by simp) (gR (by simp) rfl)))
      · have hul : (u ++ [t]).length = u.length + 1 := by simp
        have e3 : Int.toNat ((((u ++ [t]).length : Nat) : Int) - 1) = u.length := by rw [hul]; omega
        have e4 : List.getD (u ++ [t]) u.length (0, 0) = t := by simp
        simp only [e3, e4]
        rw [addS_snoc]
        by_cases ht : t.2 = eAt es i
        · rw [if_pos ht]
          refine bB (v := true) (bT (dT (by omega)) (gI (by omega) (gX (by omega) (gK (by omega) (congrArg some (eT ht)))))) (bT rfl (gI (by omega) (gX (by omega) (gK (by omega) (congrArg some ?_)))))
          rw [List.set_append_right _ _ (Nat.le_refl _)]; simp
        · rw [if_neg ht]
          exact bB (v := false) (bT (dT (by omega)) (gI (by omega) (gX (by omega) (gK (by omega) (congrArg some (eF ht)))))) (bF rfl (gR (by omega) (gR (by simp) rfl)))) (by
    rw [m_ref12_Combine_L1_eq]
    exact gI (by omega) (bF (dF (by omega)) rfl))
  exact h
theorem spE_app (a b : List Sp) : spE (a ++ b) = spE a ++ spE b := by simp [spE]
theorem p_full (l : List Sp) : m_ref12_full std l = some (if l.length ≤ 2000 then .inr 0 else .inl ([], 5)) := by
  rw [m_ref12_full_eq]
  by_cases h : l.length ≤ 2000
  · rw [dF (show ¬ (2000 : Int) < ((l.length : Nat) : Int) by omega), if_pos h]; rfl
  · rw [dT (show (2000 : Int) < ((l.length : Nat) : Int) by omega), if_neg h]; rfl
theorem p_ref12_Of {l : List Sp} (hl : l.length ≤ 100000) : m_ref12_Of std l = some (if spsB l = true then (if (ofS l).length ≤ 2000 then (ofS l, 0) else ([], 5)) else ([], 1)) := by
  rw [m_ref12_Of_eq, p_Spans l (by omega), Option.bind_some]
  cases hb : spsB l with
  | false => rfl
  | true =>
    obtain ⟨k1, k2, k3⟩ := insL_ok (spE l)
    rw [spE_len] at k3
    have hc := cut_ok (rule := rOr) (a := l) (b := []) rfl k1 (fun x hx => (k2 x).2 hx) (fun x hx => by simp [spE] at hx)
    have he : cutL (R2 rOr l []) (eAt (insL (spE l))) ((insL (spE l)).length - 1) = ofS l := by
      refine can_unique hc.1 (ofS_ok hb).1 fun x => ?_
      rw [hc.2, (ofS_ok hb).2.1, ← memB_iff]
      unfold R2 rOr
      have : memB [] x = false := rfl
      rw [this, Bool.or_false]
    have hC : m_ref12_Combine std 1 l [] = some (ofS l) := by
      rw [m_ref12_Combine_eq]
      simp only [List.nil_append, List.append_nil]
      refine gR (by simp) (gR (by omega) (gR (by omega) (gR (by simp) (bB (p_ref12_Ends hl) (bB (p_ref12_Combine_L1 hl (by simp) k1 (by omega)) ?_)))))
      rw [he]
    have hd := p_full (ofS l)
    refine bF rfl ?_
    by_cases h : (ofS l).length ≤ 2000
    · rw [if_pos h] at hd
      rw [if_pos rfl, if_pos h]
      exact bB (bB hC (bB hd rfl)) rfl
    · rw [if_neg h] at hd
      rw [if_pos rfl, if_neg h]
      exact bB (bB hC (bB hd rfl)) rfl
theorem p_At_L1 {l : List Rc} (hl : l.length ≤ 1000000) (t : Int) : loop (m_ref35_At_L1 std l t) (0, ([] : List Sp)) = some (atL l t) := by
  have h := loop_up (B := m_ref35_At_L1 std l t) (n := l.length) (fun i => atL (l.take i) t) (e := atL l t) (by omega) (fun i hi => by
    have hlen := atL_len (l.take i) t
    rw [List.length_take] at hlen
    rw [atL_take hi, m_ref35_At_L1_eq]
    generalize atL (l.take i) t = acc at *
    simp only [Int.toNat_natCast]
    refine bT (dT (by omega)) ?_
    unfold inT
    obtain ⟨r, hr⟩ : ∃ r, List.getD l i (0, 0, 0, 0) = r := ⟨_, rfl⟩
    simp only [hr]
    by_cases h1 : r.2.2.1 ≤ t
    · by_cases h2 : t < r.2.2.2
      · rw [dT h1, dT h2]
        exact bB (v := true) (bT rfl (gX (by omega) (gK hi rfl))) (bB (v := acc ++ [(r.1, r.2.1)]) (bT rfl (gR (by omega) (gR (by simp) rfl))) (gI (by omega) rfl))
      · rw [dT h1, dF h2]
        exact bB (v := false) (bT rfl (gX (by omega) (gK hi rfl))) (bB (v := acc) (bF rfl rfl) (gI (by omega) (by simp)))
    · rw [dF h1]
      exact bB (v := false) (bF rfl (gX (by omega) (gK hi rfl))) (bB (v := acc) (bF rfl rfl) (gI (by omega) (by simp)))) (by
    rw [m_ref35_At_L1_eq]
    refine bF (dF (by omega)) ?_
    show some (Sum.inr (atL (l.take l.length) t)) = _
    rw [List.take_length])
  exact h
theorem p_At {l : List Rc} (h : lvB l = true) (hl : l.length ≤ 2000) (t : Int) : m_ref35_At std t l = some (tS l t) := by
  have h1 := tS_len h t
  have h2 := atL_len l t
  rw [m_ref35_At_eq, p_At_L1 (by omega), Option.bind_some, p_ref12_Of (by omega), if_pos (atL_sps h t)]
  have : (ofS (atL l t)).length ≤ 2000 := by show (tS l t).length ≤ 2000; omega
  rw [if_pos this]; rfl
theorem p_has (l : List Sp) (hl : l.length ≤ 1000000) (x : Int) : m_ref35_has std x l = some (memB l x) := by
  rw [m_ref35_has_eq, p_In l hl]; rfl
theorem p_mix_L3_0 {a b : List Sp} (ha : a.length ≤ 100000) (hb : b.length ≤ 100000) {es : List Int} (hes : es.Pairwise (· < ·)) (hn : es.length ≤ 1000000) :
    loop (m_ref35_mix_L3 std a b 0 es) (0, ([] : List Sp)) = some (cutL (R2 rOr a b) (eAt es) (es.length - 1)) := by
  have hlt := eAt_lt hes
  have h := loop_up (B := m_ref35_mix_L3 std a b 0 es) (n := es.length - 1) (fun i => cutL (R2 rOr a b) (eAt es) i) (e := cutL (R2 rOr a b) (eAt es) (es.length - 1)) (by omega) (fun i hi => by
    have hlen := cutL_len (R2 rOr a b) (eAt es) i
    rw [cutL_succ (hlt i hi), m_ref35_mix_L3_eq]
    generalize cutL (R2 rOr a b) (eAt es) i = acc at *
    have e1 : Int.toNat (i : Int) = i := Int.toNat_natCast i
    have e2 : Int.toNat ((i : Int) + 1) = i + 1 := by omega
    have g1 : List.getD es i 0 = eAt es i := rfl
    have g2 : List.getD es (i + 1) 0 = eAt es (i + 1) := rfl
    simp only [e1, e2, g1, g2]
    refine gI (by omega) (bT (dT (by omega)) (gX (by omega) (gK (by omega) (bB (p_has a (by omega) _) (bB (p_has b (by omega) _) (bB (v := rOr (memB a (eAt es i)) (memB b (eAt es i))) ?_ ?_))))))
    · cases memB a (eAt es i) <;> cases memB b (eAt es i) <;> rfl
    have hR : R2 rOr a b (eAt es i) = rOr (memB a (eAt es i)) (memB b (eAt es i)) := rfl
    rw [hR]
    cases rOr (memB a (eAt es i)) (memB b (eAt es i)) with
    | false => exact bB (v := acc) (bF rfl rfl) rfl
    | true =>
      refine bB (v := addS acc (eAt es i, eAt es (i + 1))) (bT rfl ?_) (by rw [if_pos rfl]; rfl)
      rcases snoc_cases acc with rfl | ⟨u, t, rfl⟩
      · exact bB (v := false) (bF (dF (by simp)) rfl) (bB (v := [(eAt es i, eAt es (i + 1))]) (bF rfl (gX (by omega) (gK (by omega) (gR (by simp) (gR (by simp) rfl))))) rfl)
      · have hul : (u ++ [t]).length = u.length + 1 := by simp
        have e3 : Int.toNat ((((u ++ [t]).length : Nat) : Int) - 1) = u.length := by rw [hul]; omega
        have e4 : List.getD (u ++ [t]) u.length (0, 0) = t := by simp
        simp only [e3, e4]
        rw [addS_snoc]
        by_cases ht : t.2 = eAt es i
        · rw [if_pos ht]
          refine bB (v := true) (bT (dT (by omega)) (gI (by omega) (gX (by omega) (gK (by omega) (congrArg some (eT ht)))))) (bB (v := u ++ [(t.1, eAt es (i + 1))]) (bT rfl (gI (by omega) (gX (by omega) (gK (by omega) (gX (by omega) (gK (by omega) (congrArg some ?_))))))) rfl)
          rw [List.set_append_right _ _ (Nat.le_refl _)]; simp
        · rw [if_neg ht]
          exact bB (v := false) (bT (dT (by omega)) (gI (by omega) (gX (by omega) (gK (by omega) (congrArg some (eF ht)))))) (bB (v := u ++ [t] ++ [(eAt es i, eAt es (i + 1))]) (bF rfl (gX (by omega) (gK (by omega) (gR (by omega) (gR (by simp) rfl))))) rfl)) (by
    rw [m_ref35_mix_L3_eq]
    exact gI (by omega) (bF (dF (by omega)) rfl))
  exact h
theorem p_mix_0 {a b : List Sp} (ha : a.length ≤ 1000) (hb : b.length ≤ 1000) : m_ref35_mix std 0 a b = some (opS rOr a b) := by
  obtain ⟨k1, k2, k3⟩ := insL_ok (spE a ++ spE b)
  have l1 := (insL_ok (spE a)).2.2
  rw [spE_len] at l1
  rw [List.length_append, spE_len, spE_len] at k3
  have hc := cut_ok (rule := rOr) (a := a) (b := b) rfl k1 (fun x hx => (k2 x).2 (List.mem_append_left _ hx)) (fun x hx => (k2 x).2 (List.mem_append_right _ hx))
  have he := opS_eq hc.1 hc.2
  rw [m_ref35_mix_eq]
  have ea := insL_app (spE a) (spE b)
  refine bB (p_ref35_mix_L1 (by omega) (by simp)) (bB (v := insL (spE a ++ spE b)) ?_ (bB (p_mix_L3_0 (by omega) (by omega) k1 (by omega)) ?_))
  · rw [ea]; exact p_ref35_mix_L2 (by omega) (by show (insL (spE a)).length ≤ _; omega)
  · rw [he]
theorem p_mix_L3_1 {a b : List Sp} (ha : a.length ≤ 100000) (hb : b.length ≤ 100000) {es : List Int} (hes : es.Pairwise (· < ·)) (hn : es.length ≤ 1000000) :
    loop (m_ref35_mix_L3 std a b 1 es) (0, ([] : List Sp)) = some (cutL (R2 rAnd a b) (eAt es) (es.length - 1)) := by
  have hlt := eAt_lt hes
  have h := loop_up (B := m_ref35_mix_L3 std a b 1 es) (n := es.length - 1) (fun i => cutL (R2 rAnd a b) (eAt es) i) (e := cutL (R2 rAnd a b) (eAt es) (es.length - 1)) (by omega) (fun i hi => by
    have hlen := cutL_len (R2 rAnd a b) (eAt es) i
    rw [cutL_succ (hlt i hi), m_ref35_mix_L3_eq]
    generalize cutL (R2 rAnd a b) (eAt es) i = acc at *
    have e1 : Int.toNat (i : Int) = i := Int.toNat_natCast i
    have e2 : Int.toNat ((i : Int) + 1) = i + 1 := by omega
    have g1 : List.getD es i 0 = eAt es i := rfl
    have g2 : List.getD es (i + 1) 0 = eAt es (i + 1) := rfl
    simp only [e1, e2, g1, g2]
    refine gI (by omega) (bT (dT (by omega)) (gX (by omega) (gK (by omega) (bB (p_has a (by omega) _) (bB (p_has b (by omega) _) (bB (v := rAnd (memB a (eAt es i)) (memB b (eAt es i))) ?_ ?_))))))
    · cases memB a (eAt es i) <;> cases memB b (eAt es i) <;> rfl
    have hR : R2 rAnd a b (eAt es i) = rAnd (memB a (eAt es i)) (memB b (eAt es i)) := rfl
    rw [hR]
    cases rAnd (memB a (eAt es i)) (memB b (eAt es i)) with
    | false => exact bB (v := acc) (bF rfl rfl) rfl
    | true =>
      refine bB (v := addS acc (eAt es i, eAt es (i + 1))) (bT rfl ?_) (by rw [if_pos rfl]; rfl)
      rcases snoc_cases acc with rfl | ⟨u, t, rfl⟩
      · exact bB (v := false) (bF (dF (by simp)) rfl) (bB (v := [(eAt es i, eAt es (i + 1))]) (bF rfl (gX (by omega) (gK (by omega) (gR (by simp) (gR (by simp) rfl))))) rfl)
      · have hul : (u ++ [t]).length = u.length + 1 := by simp
        have e3 : Int.toNat ((((u ++ [t]).length : Nat) : Int) - 1) = u.length := by rw [hul]; omega
        have e4 : List.getD (u ++ [t]) u.length (0, 0) = t := by simp
        simp only [e3, e4]
        rw [addS_snoc]
        by_cases ht : t.2 = eAt es i
        · rw [if_pos ht]
          refine bB (v := true) (bT (dT (by omega)) (gI (by omega) (gX (by omega) (gK (by omega) (congrArg some (eT ht)))))) (bB (v := u ++ [(t.1, eAt es (i + 1))]) (bT rfl (gI (by omega) (gX (by omega) (gK (by omega) (gX (by omega) (gK (by omega) (congrArg some ?_))))))) rfl)
          rw [List.set_append_right _ _ (Nat.le_refl _)]; simp
        · rw [if_neg ht]
          exact bB (v := false) (bT (dT (by omega)) (gI (by omega) (gX (by omega) (gK (by omega) (congrArg some (eF ht)))))) (bB (v := u ++ [t] ++ [(eAt es i, eAt es (i + 1))]) (bF rfl (gX (by omega) (gK (by omega) (gR (by omega) (gR (by simp) rfl))))) rfl)) (by
    rw [m_ref35_mix_L3_eq]
    exact gI (by omega) (bF (dF (by omega)) rfl))
  exact h
theorem p_mix_1 {a b : List Sp} (ha : a.length ≤ 1000) (hb : b.length ≤ 1000) : m_ref35_mix std 1 a b = some (opS rAnd a b) := by
  obtain ⟨k1, k2, k3⟩ := insL_ok (spE a ++ spE b)
  have l1 := (insL_ok (spE a)).2.2
  rw [spE_len] at l1
  rw [List.length_append, spE_len, spE_len] at k3
  have hc := cut_ok (rule := rAnd) (a := a) (b := b) rfl k1 (fun x hx => (k2 x).2 (List.mem_append_left _ hx)) (fun x hx => (k2 x).2 (List.mem_append_right _ hx))
  have he := opS_eq hc.1 hc.2
  rw [m_ref35_mix_eq]
  have ea := insL_app (spE a) (spE b)
  refine bB (p_ref35_mix_L1 (by omega) (by simp)) (bB (v := insL (spE a ++ spE b)) ?_ (bB (p_mix_L3_1 (by omega) (by omega) k1 (by omega)) ?_))
  · rw [ea]; exact p_ref35_mix_L2 (by omega) (by show (insL (spE a)).length ≤ _; omega)
  · rw [he]
theorem p_mix_L3_2 {a b : List Sp} (ha : a.length ≤ 100000) (hb : b.length ≤ 100000) {es : List Int} (hes : es.Pairwise (· < ·)) (hn : es.length ≤ 1000000) :
    loop (m_ref35_mix_L3 std a b 2 es) (0, ([] : List Sp)) = some (cutL (R2 rSub a b) (eAt es) (es.length - 1)) := by
  have hlt := eAt_lt hes
  have h := loop_up (B := m_ref35_mix_L3 std a b 2 es) (n := es.length - 1) (fun i => cutL (R2 rSub a b) (eAt es) i) (e := cutL (R2 rSub a b) (eAt es) (es.length - 1)) (by omega) (fun i hi => by
    have hlen := cutL_len (R2 rSub a b) (eAt es) i
    rw [cutL_succ (hlt i hi), m_ref35_mix_L3_eq]
    generalize cutL (R2 rSub a b) (eAt es) i = acc at *
    have e1 : Int.toNat (i : Int) = i := Int.toNat_natCast i
    have e2 : Int.toNat ((i : Int) + 1) = i + 1 := by omega
    have g1 : List.getD es i 0 = eAt es i := rfl
    have g2 : List.getD es (i + 1) 0 = eAt es (i + 1) := rfl
    simp only [e1, e2, g1, g2]
    refine gI (by omega) (bT (dT (by omega)) (gX (by omega) (gK (by omega) (bB (p_has a (by omega) _) (bB (p_has b (by omega) _) (bB (v := rSub (memB a (eAt es i)) (memB b (eAt es i))) ?_ ?_))))))
    · cases memB a (eAt es i) <;> cases memB b (eAt es i) <;> rfl
    have hR : R2 rSub a b (eAt es i) = rSub (memB a (eAt es i)) (memB b (eAt es i)) := rfl
    rw [hR]
    cases rSub (memB a (eAt es i)) (memB b (eAt es i)) with
    | false => exact bB (v := acc) (bF rfl rfl) rfl
    | true =>
      refine bB (v := addS acc (eAt es i, eAt es (i + 1))) (bT rfl ?_) (by rw [if_pos rfl]; rfl)
      rcases snoc_cases acc with rfl | ⟨u, t, rfl⟩
      · exact bB (v := false) (bF (dF (by simp)) rfl) (bB (v := [(eAt es i, eAt es (i + 1))]) (bF rfl (gX (by omega) (gK (by omega) (gR (by simp) (gR (by simp) rfl))))) rfl)
      · have hul : (u ++ [t]).length = u.length + 1 := by simp
        have e3 : Int.toNat ((((u ++ [t]).length : Nat) : Int) - 1) = u.length := by rw [hul]; omega
        have e4 : List.getD (u ++ [t]) u.length (0, 0) = t := by simp
        simp only [e3, e4]
        rw [addS_snoc]
        by_cases ht : t.2 = eAt es i
        · rw [if_pos ht]
          refine bB (v := true) (bT (dT (by omega)) (gI (by omega) (gX (by omega) (gK (by omega) (congrArg some (eT ht)))))) (bB (v := u ++ [(t.1, eAt es (i + 1))]) (bT rfl (gI (by omega) (gX (by omega) (gK (by omega) (gX (by omega) (gK (by omega) (congrArg some ?_))))))) rfl)
          rw [List.set_append_right _ _ (Nat.le_refl _)]; simp
        · rw [if_neg ht]
          exact bB (v := false) (bT (dT (by omega)) (gI (by omega) (gX (by omega) (gK (by omega) (congrArg some (eF ht)))))) (bB (v := u ++ [t] ++ [(eAt es i, eAt es (i + 1))]) (bF rfl (gX (by omega) (gK (by omega) (gR (by omega) (gR (by simp) rfl))))) rfl)) (by
    rw [m_ref35_mix_L3_eq]
    exact gI (by omega) (bF (dF (by omega)) rfl))
  exact h
theorem p_mix_2 {a b : List Sp} (ha : a.length ≤ 1000) (hb : b.length ≤ 1000) : m_ref35_mix std 2 a b = some (opS rSub a b) := by
  obtain ⟨k1, k2, k3⟩ := insL_ok (spE a ++ spE b)
  have l1 := (insL_ok (spE a)).2.2
  rw [spE_len] at l1
  rw [List.length_append, spE_len, spE_len] at k3
  have hc := cut_ok (rule := rSub) (a := a) (b := b) rfl k1 (fun x hx => (k2 x).2 (List.mem_append_left _ hx)) (fun x hx => (k2 x).2 (List.mem_append_right _ hx))
  have he := opS_eq hc.1 hc.2
  rw [m_ref35_mix_eq]
  have ea := insL_app (spE a) (spE b)
  refine bB (p_ref35_mix_L1 (by omega) (by simp)) (bB (v := insL (spE a ++ spE b)) ?_ (bB (p_mix_L3_2 (by omega) (by omega) k1 (by omega)) ?_))
  · rw [ea]; exact p_ref35_mix_L2 (by omega) (by show (insL (spE a)).length ≤ _; omega)
  · rw [he]
end
section
/-- the reference's state before a cut: what is written, the set that is open, and from when -/
structure RefI (E : Nat → Int) (F : Nat → List Sp) (i : Nat) (fm : Int) (out : List Rc) (last : List Sp) : Prop where
  none : last = [] → out = flatG (buildG E F i) ∧ ∀ r ∈ buildG E F i, r.2.1 < E i
  some : last ≠ [] → ∃ g0, buildG E F i = g0 ++ [(fm, E i, last)] ∧ out = flatG g0
theorem RefI.init (E : Nat → Int) (F : Nat → List Sp) : RefI E F 0 0 [] [] := ⟨fun _ => ⟨rfl, fun r h => (by cases h)⟩, fun h => absurd rfl h⟩
theorem RefI.flush {E : Nat → Int} {F : Nat → List Sp} {i : Nat} {fm : Int} {out : List Rc} {last : List Sp} (h : RefI E F i fm out last) : out ++ rcs (fm, E i, last) = flatG (buildG E F i) := by
  by_cases h0 : last = []
  · rw [(h.none h0).1, h0]; simp [rcs]
  · obtain ⟨g0, h1, h2⟩ := h.some h0
    rw [h1, flatG_app, flatG_one, h2]
theorem RefI.same {E : Nat → Int} {F : Nat → List Sp} {i : Nat} {fm : Int} {out : List Rc} {last : List Sp} (h : RefI E F i fm out last) (hlt : E i < E (i + 1)) (he : F i = last) : RefI E F (i + 1) fm out last := by
  by_cases hp : last = []
  · obtain ⟨h1, h2⟩ := h.none hp
    have hb : buildG E F (i + 1) = buildG E F i := by
      show addG _ _ = _
      exact addG_none _ (by rw [he]; exact hp)
    refine ⟨fun _ => ⟨by rw [hb]; exact h1, fun r hr => ?_⟩, fun h => absurd hp h⟩
    rw [hb] at hr
    have := h2 r hr
    omega
  · obtain ⟨g0, h1, h2⟩ := h.some hp
    refine ⟨fun h => absurd h hp, fun _ => ⟨g0, ?_, h2⟩⟩
    show addG (buildG E F i) (E i, E (i + 1), F i) = _
    rw [h1, he, addG_snoc g0 _ hp, if_pos ⟨rfl, rfl⟩]
theorem RefI.other {E : Nat → Int} {F : Nat → List Sp} {i : Nat} {fm : Int} {out : List Rc} {last : List Sp} (h : RefI E F i fm out last) (hlt : E i < E (i + 1)) (hg : ∀ r ∈ buildG E F i, r.2.1 ≤ E i) (he : F i ≠ last) :
    RefI E F (i + 1) (E i) (flatG (buildG E F i)) (F i) := by
  by_cases h0 : F i = []
  · have hb : buildG E F (i + 1) = buildG E F i := by
      show addG _ _ = _
      exact addG_none _ h0
    refine ⟨fun _ => ⟨by rw [hb], fun r hr => ?_⟩, fun h => absurd h0 h⟩
    rw [hb] at hr
    have := hg r hr
    omega
  · refine ⟨fun h => absurd h h0, fun _ => ⟨buildG E F i, ?_, rfl⟩⟩
    show addG (buildG E F i) (E i, E (i + 1), F i) = _
    rcases snoc_cases (buildG E F i) with h1 | ⟨u, r, h1⟩
    · rw [h1, addG_nil h0]; rfl
    · rw [h1, addG_snoc u r h0]
      refine if_neg ?_
      rintro ⟨h2, h3⟩
      by_cases hp : last = []
      · have := (h.none hp).2 r (by rw [h1]; simp)
        omega
      · obtain ⟨g0, h4, _⟩ := h.some hp
        rw [h1] at h4
        have h5 := List.append_inj_right' h4 rfl
        have h6 : r = (fm, E i, last) := by simpa using h5
        rw [h6] at h3
        exact he h3.symm
theorem p_flush {es : List Int} {i : Nat} (hi : i < es.length) (fm : Int) (v : List Sp) (u : List Rc) (hu : u.length ≤ 10000000) (hv : v.length ≤ 1000000) :
    loop (m_ref35_Combine_L1 std fm (i : Int) v es) (0, u) = some (u ++ rcs (fm, eAt es i, v)) := by
  have h := loop_up (B := m_ref35_Combine_L1 std fm (i : Int) v es) (n := v.length) (fun j => u ++ rcs (fm, eAt es i, v.take j)) (e := u ++ rcs (fm, eAt es i, v)) (by omega) (fun j hj => by
    rw [m_ref35_Combine_L1_eq]
    have e1 : (u ++ rcs (fm, eAt es i, v.take j)).length = u.length + j := by rw [List.length_append, rcs_len]; simp; omega
    simp only [Int.toNat_natCast]
    refine bT (dT (by omega)) (gX (by omega) (gK hj (gX (by omega) (gK hi (gR (by rw [e1]; omega) (gR (by simp) (gI (by omega) ?_)))))))
    rw [List.take_succ_eq_append_getElem hj]
    have eg : List.getD v j (0, 0) = v[j] := by rw [List.getD_eq_getElem?_getD, List.getElem?_eq_getElem hj]; rfl
    have er : ∀ (a b : Int) (x : List Sp) (y : Sp), rcs (a, b, x ++ [y]) = rcs (a, b, x) ++ [(y.1, y.2, a, b)] := fun a b x y => by simp [rcs]
    rw [eg, er, ← List.append_assoc]
    rfl) (by
    rw [m_ref35_Combine_L1_eq]
    exact bF (dF (by omega)) (by rw [List.take_length]))
  have e0 : u ++ rcs (fm, eAt es i, v.take 0) = u := by simp [rcs]
  rw [e0] at h
  exact h
theorem p_rCombine_L2_0 {a b : List Rc} (ha : lvB a = true) (hb : lvB b = true) (hla : a.length ≤ 500) (hlb : b.length ≤ 500) {es : List Int} (hes : es.Pairwise (· < ·)) (hen : es.length ≤ 5000) :
    loop (m_ref35_Combine_L2 std a b 0 es) (0, 0, ([] : List Rc), ([] : List Sp)) = some (flatG (buildG (eAt es) (fun i => opS rOr (tS a (eAt es i)) (tS b (eAt es i))) (es.length - 1))) := by
  obtain ⟨F, hF⟩ : ∃ F : Nat → List Sp, (fun i => opS rOr (tS a (eAt es i)) (tS b (eAt es i))) = F := ⟨_, rfl⟩
  have hf : ∀ i, m_ref35_mix std 0 (tS a (eAt es i)) (tS b (eAt es i)) = some (F i) ∧ OpOk rOr (tS a (eAt es i)) (tS b (eAt es i)) (F i) ∧ (F i).length ≤ 1000 := fun i => by
    have h1 := tS_len ha (eAt es i)
    have h2 := tS_len hb (eAt es i)
    have h3 := p_mix_0 (a := tS a (eAt es i)) (b := tS b (eAt es i)) (by omega) (by omega)
    have h4 := (IsRule.or).op (tS_time ha (eAt es i)) (tS_time hb (eAt es i)) (by omega) (by omega)
    rw [← hF]; exact ⟨h3, h4, by have := h4.len; show (opS rOr _ _).length ≤ _; omega⟩
  have hlt := eAt_lt hes
  rw [hF]
  have hB := fun (i : Nat) (hi : i ≤ es.length - 1) => buildG_ok (E := eAt es) (F := F) (n := i) (fun j hj => hlt j (by omega)) (fun j _ => (hf j).2.1.can)
  have hbd : ∀ i, i ≤ es.length → (flatG (buildG (eAt es) F i)).length ≤ 5000000 := fun i hi => by
    have h1 := flatG_build_bd (E := eAt es) (F := F) (k := 1000) (n := i) (fun j _ => (hf j).2.2)
    omega
  have hlp := loop_is (B := m_ref35_Combine_L2 std a b 0 es) (y := (0, 0, ([] : List Rc), ([] : List Sp))) (fun y => ∃ i : Nat, y.2.1 = (i : Int) ∧ ((i < es.length ∧ RefI (eAt es) F i y.1 y.2.2.1 y.2.2.2) ∨ (i = es.length ∧ y.2.2.1 = flatG (buildG (eAt es) F (es.length - 1)))))
    (fun y => es.length - y.2.1.toNat) (fun e => e = flatG (buildG (eAt es) F (es.length - 1))) (by
      refine ⟨0, rfl, ?_⟩
      rcases Nat.eq_zero_or_pos es.length with h0 | h0
      · exact .inr ⟨h0.symm, by rw [h0]; rfl⟩
      · exact .inl ⟨h0, RefI.init _ _⟩) (by show _ - _ < _; omega) (by
    rintro ⟨fm, z, out, last⟩ ⟨i, h2, hc⟩
    change z = (i : Int) at h2
    subst h2
    rw [m_ref35_Combine_L2_eq]
    rcases hc with ⟨hi, hc⟩ | ⟨hi, hc⟩
    · change RefI (eAt es) F i fm out last at hc
      have hfl := hc.flush
      have hol : out.length ≤ 5000000 := by
        have := hbd i (by omega)
        rw [← hfl, List.length_append] at this
        omega
      have hll : last.length ≤ 5000000 := by
        have := hbd i (by omega)
        rw [← hfl, List.length_append, rcs_len] at this
        show last.length ≤ _
        have h3 : (fm, eAt es i, last).2.2.length = last.length := rfl
        omega
      have e1 : List.getD es (Int.toNat (i : Int)) 0 = eAt es i := by rw [Int.toNat_natCast]; rfl
      have fin : ∀ (now : List Sp), now.length ≤ 1000000 → (bif (decide (((i : Int) + 1) < (((List.length es) : Nat) : Int))) then
            grd (okIdx (i : Int) ((List.length es))) <|
            grd (okKin ((Int.toNat (i : Int))) ((List.length es))) <|
            Option.bind (m_ref35_At std ((List.getD es (Int.toNat (i : Int)) 0)) a) fun l143 =>
            Option.bind (m_ref35_At std ((List.getD es (Int.toNat (i : Int)) 0)) b) fun l144 =>
            Option.bind (m_ref35_mix std 0 l143 l144) fun l145 =>
            (some l145)
          else
            (some ([] : List (Int × Int))) : Option ((List (Int × Int)))) = some now →
          ∃ y', (grd (okI .i64 ((i : Int) + 1)) <|
            Option.bind (
              bif (decide (((i : Int) + 1) < (((List.length es) : Nat) : Int))) then
                grd (okIdx (i : Int) ((List.length es))) <|
                grd (okKin ((Int.toNat (i : Int))) ((List.length es))) <|
                Option.bind (m_ref35_At std ((List.getD es (Int.toNat (i : Int)) 0)) a) fun l143 =>
                Option.bind (m_ref35_At std ((List.getD es (Int.toNat (i : Int)) 0)) b) fun l144 =>
                Option.bind (m_ref35_mix std 0 l143 l144) fun l145 =>
                (some l145)
              else
                (some ([] : List (Int × Int))) : Option ((List (Int × Int)))) fun l147 =>
            Option.bind (m_ref12_Same std l147 last) fun b45 =>
            bif b45 then
              (some (Sum.inl (fm, ((i : Int) + 1), out, last)))
            else
              Option.bind (loop (m_ref35_Combine_L1 std fm (i : Int) last es) (0, out)) fun l149 =>
              grd (okIdx (i : Int) ((List.length es))) <|
              grd (okKin ((Int.toNat (i : Int))) ((List.length es))) <|
              (some (Sum.inl ((List.getD es (Int.toNat (i : Int)) 0), ((i : Int) + 1), l149, now))) : Option ((Int × Int × List Rc × List Sp) ⊕ (List Rc))) = some (Sum.inl y') ∧ y'.2.1 = ((i + 1 : Nat) : Int) ∧ (now = last → y' = (fm, ((i + 1 : Nat) : Int), out, last)) ∧ (now ≠ last → y' = (eAt es i, ((i + 1 : Nat) : Int), flatG (buildG (eAt es) F i), now)) := fun now hnl hnow => by
        by_cases hs : now = last
        · exact ⟨(fm, ((i + 1 : Nat) : Int), out, last), gI (by omega) (bB hnow (bB (p_Same _ _ hnl) (bT (dT hs) rfl))), rfl, fun _ => rfl, fun h => absurd hs h⟩
        · refine ⟨(eAt es i, ((i + 1 : Nat) : Int), flatG (buildG (eAt es) F i), now), gI (by omega) (bB hnow (bB (p_Same _ _ hnl) (bF (dF hs) (bB (p_flush hi fm last out (by omega) ?_) (gX (by omega) (gK (by omega) ?_)))))), rfl, fun h => absurd h hs, fun _ => rfl⟩
          · by_cases h0 : last = []
            · rw [h0]; simp
            · obtain ⟨g0, k1, k2⟩ := hc.some h0
              have := hbd i (by omega)
              have hi0 : last = F (i - 1) ∨ True := .inr trivial
              have hmem : (fm, eAt es i, last) ∈ buildG (eAt es) F i := by rw [k1]; simp
              have hall : ∀ (n : Nat), ∀ s ∈ buildG (eAt es) F n, s.2.2.length ≤ 1000 := by
                intro n
                induction n with
                | zero => intro s hs; cases hs
                | succ n ih =>
                  intro s hs
                  change s ∈ addG (buildG (eAt es) F n) (eAt es n, eAt es (n + 1), F n) at hs
                  by_cases hz : F n = []
                  · rw [addG_none _ hz] at hs; exact ih s hs
                  · rcases snoc_cases (buildG (eAt es) F n) with h1 | ⟨u, r, h1⟩
                    · rw [h1, addG_nil hz, List.mem_singleton] at hs
                      rw [hs]; exact (hf n).2.2
                    · rw [h1, addG_snoc u r hz] at hs
                      split at hs
                      · rcases List.mem_append.1 hs with hs | hs
                        · exact ih s (by rw [h1]; simp [hs])
                        · rw [List.mem_singleton.1 hs]; exact ih r (by rw [h1]; simp)
                      · rcases List.mem_append.1 hs with hs | hs
                        · exact ih s (by rw [h1]; exact hs)
                        · rw [List.mem_singleton.1 hs]; exact (hf n).2.2
              have := hall i _ hmem
              show last.length ≤ _
              have h3 : (fm, eAt es i, last).2.2.length = last.length := rfl
              omega
          · rw [hfl, e1]; rfl
      by_cases hi1 : i + 1 < es.length
      · have hlti := hlt i (by omega)
        obtain ⟨y', q1, q2, q3, q4⟩ := fin (F i) (by have := (hf i).2.2; omega) (bT (dT (by omega)) (gX (by omega) (gK (by omega) (by rw [e1]; exact bB (p_At ha (by omega) _) (bB (p_At hb (by omega) _) (bB (hf i).1 rfl))))))
        refine ⟨.inl y', ?_, ?_⟩
        · rw [← q1]
          refine bT (dT (by omega)) (congrArg (grd _) ?_)
          have hnow : (bif (decide (((i : Int) + 1) < (((List.length es) : Nat) : Int))) then
            grd (okIdx (i : Int) ((List.length es))) <|
            grd (okKin ((Int.toNat (i : Int))) ((List.length es))) <|
            Option.bind (m_ref35_At std ((List.getD es (Int.toNat (i : Int)) 0)) a) fun l143 =>
            Option.bind (m_ref35_At std ((List.getD es (Int.toNat (i : Int)) 0)) b) fun l144 =>
            Option.bind (m_ref35_mix std 0 l143 l144) fun l145 =>
            (some l145)
          else
            (some ([] : List (Int × Int))) : Option ((List (Int × Int)))) = some (F i) := bT (dT (by omega)) (gX (by omega) (gK (by omega) (by rw [e1]; exact bB (p_At ha (by omega) _) (bB (p_At hb (by omega) _) (bB (hf i).1 rfl)))))
          rw [hnow]; rfl
        · refine ⟨⟨i + 1, q2, .inl ⟨hi1, ?_⟩⟩, ?_⟩
          · by_cases hs : F i = last
            · rw [q3 hs]; exact hc.same hlti hs
            · rw [q4 hs]; exact hc.other hlti (hB i (by omega)).2.1 hs
          · show es.length - y'.2.1.toNat < es.length - Int.toNat (i : Int)
            rw [q2]; omega
      · have hin : i = es.length - 1 := by omega
        obtain ⟨y', q1, q2, q3, q4⟩ := fin [] (by simp) (bF (dF (by omega)) rfl)
        refine ⟨.inl y', ?_, ?_⟩
        · rw [← q1]
          refine bT (dT (by omega)) (congrArg (grd _) ?_)
          rw [show (decide (((i : Int) + 1) < (((List.length es) : Nat) : Int))) = false from dF (by omega)]; rfl
        · refine ⟨⟨i + 1, q2, .inr ⟨by omega, ?_⟩⟩, ?_⟩
          · by_cases hs : [] = last
            · rw [q3 hs]
              show out = _
              rw [← hin]; exact (hc.none hs.symm).1
            · rw [q4 hs]
              show flatG (buildG (eAt es) F i) = _
              rw [hin]
          · show es.length - y'.2.1.toNat < es.length - Int.toNat (i : Int)
            rw [q2]; omega
    · exact ⟨.inr out, bF (dF (by omega)) rfl, hc⟩)
  obtain ⟨e, h1, rfl⟩ := hlp
  exact h1
theorem p_rCombine_0 (a b : List Rc) (hla : a.length ≤ 50000) (hlb : b.length ≤ 50000) : m_ref35_Combine std 0 a b = some (resC rOr a b) := by
  rw [m_ref35_Combine_eq, p_ref35_List a (by omega), p_ref35_List b (by omega)]
  unfold resC chk2
  cases h1 : lvB a with
  | false => exact bB (v := true) (bB rfl (bT rfl rfl)) (bT rfl rfl)
  | true =>
    cases h2 : lvB b with
    | false => exact bB (v := true) (bB rfl (bF rfl (bB rfl rfl))) (bT rfl rfl)
    | true =>
      refine bB (v := false) (bB rfl (bF rfl (bB rfl rfl))) (bF rfl ?_)
      simp only [Bool.and_self, if_true]
      by_cases h3 : a.length ≤ 500 ∧ b.length ≤ 500
      · rw [if_pos h3, if_pos rfl]
        obtain ⟨k1, k2, k3⟩ := esOf_ok a b
        refine bB (v := false) (bF (dF (by omega)) (congrArg some (dF (by omega)))) (bF rfl (bB (p_ends a b hla hlb) (bB (p_rCombine_L2_0 h1 h2 h3.1 h3.2 k1 (by omega)) ?_)))
        show (bif decide (500 < (((flatG (segC rOr a b)).length : Nat) : Int)) then _ else _) = _
        by_cases h4 : (flatG (segC rOr a b)).length ≤ 500
        · rw [if_pos h4]; exact bF (dF (by omega)) rfl
        · rw [if_neg h4]; exact bT (dT (by omega)) rfl
      · rw [if_neg h3, if_neg (by decide)]
        refine bB (v := true) ?_ (bT rfl rfl)
        by_cases h4 : a.length ≤ 500
        · exact bF (dF (by omega)) (congrArg some (dT (by omega)))
        · exact bT (dT (by omega)) rfl
theorem p_rCombine_L2_1 {a b : List Rc} (ha : lvB a = true) (hb : lvB b = true) (hla : a.length ≤ 500) (hlb : b.length ≤ 500) {es : List Int} (hes : es.Pairwise (· < ·)) (hen : es.length ≤ 5000) :
    loop (m_ref35_Combine_L2 std a b 1 es) (0, 0, ([] : List Rc), ([] : List Sp)) = some (flatG (buildG (eAt es) (fun i => opS rAnd (tS a (eAt es i)) (tS b (eAt es i))) (es.length - 1))) := by
  obtain ⟨F, hF⟩ : ∃ F : Nat → List Sp, (fun i => opS rAnd (tS a (eAt es i)) (tS b (eAt es i))) = F := ⟨_, rfl⟩
  have hf : ∀ i, m_ref35_mix std 1 (tS a (eAt es i)) (tS b (eAt es i)) = some (F i) ∧ OpOk rAnd (tS a (eAt es i)) (tS b (eAt es i)) (F i) ∧ (F i).length ≤ 1000 := fun i => by
    have h1 := tS_len ha (eAt es i)
    have h2 := tS_len hb (eAt es i)
    have h3 := p_mix_1 (a := tS a (eAt es i)) (b := tS b (eAt es i)) (by omega) (by omega)
    have h4 := (IsRule.and).op (tS_time ha (eAt es i)) (tS_time hb (eAt es i)) (by omega) (by omega)
    rw [← hF]; exact ⟨h3, h4, by have := h4.len; show (opS rAnd _ _).length ≤ _; omega⟩
  have hlt := eAt_lt hes
  rw [hF]
  have hB := fun (i : Nat) (hi : i ≤ es.length - 1) => buildG_ok (E := eAt es) (F := F) (n := i) (fun j hj => hlt j (by omega)) (fun j _ => (hf j).2.1.can)
  have hbd : ∀ i, i ≤ es.length → (flatG (buildG (eAt es) F i)).length ≤ 5000000 := fun i hi => by
    have h1 := flatG_build_bd (E := eAt es) (F := F) (k := 1000) (n := i) (fun j _ => (hf j).2.2)
    omega
  have hlp := loop_is (B := m_ref35_Combine_L2 std a b 1 es) (y := (0, 0, ([] : List Rc), ([] : List Sp))) (fun y => ∃ i : Nat, y.2.1 = (i : Int) ∧ ((i < es.length ∧ RefI (eAt es) F i y.1 y.2.2.1 y.2.2.2) ∨ (i = es.length ∧ y.2.2.1 = flatG (buildG (eAt es) F (es.length - 1)))))
    (fun y => es.length - y.2.1.toNat) (fun e => e = flatG (buildG (eAt es) F (es.length - 1))) (by
      refine ⟨0, rfl, ?_⟩
      rcases Nat.eq_zero_or_pos es.length with h0 | h0
      · exact .inr ⟨h0.symm, by rw [h0]; rfl⟩
      · exact .inl ⟨h0, RefI.init _ _⟩) (by show _ - _ < _; omega) (by
    rintro ⟨fm, z, out, last⟩ ⟨i, h2, hc⟩
    change z = (i : Int) at h2
    subst h2
    rw [m_ref35_Combine_L2_eq]
    rcases hc with ⟨hi, hc⟩ | ⟨hi, hc⟩
    · change RefI (eAt es) F i fm out last at hc
      have hfl := hc.flush
      have hol : out.length ≤ 5000000 := by
        have := hbd i (by omega)
        rw [← hfl, List.length_append] at this
        omega
      have hll : last.length ≤ 5000000 := by
        have := hbd i (by omega)
        rw [← hfl, List.length_append, rcs_len] at this
        show last.length ≤ _
        have h3 : (fm, eAt es i, last).2.2.length = last.length := rfl
        omega
      have e1 : List.getD es (Int.toNat (i : Int)) 0 = eAt es i := by rw [Int.toNat_natCast]; rfl
      have fin : ∀ (now : List Sp), now.length ≤ 1000000 → (bif (decide (((i : Int) + 1) < (((List.length es) : Nat) : Int))) then
            grd (okIdx (i : Int) ((List.length es))) <|
            grd (okKin ((Int.toNat (i : Int))) ((List.length es))) <|
            Option.bind (m_ref35_At std ((List.getD es (Int.toNat (i : Int)) 0)) a) fun l143 =>
            Option.bind (m_ref35_At std ((List.getD es (Int.toNat (i : Int)) 0)) b) fun l144 =>
            Option.bind (m_ref35_mix std 1 l143 l144) fun l145 =>
            (some l145)
          else
            (some ([] : List (Int × Int))) : Option ((List (Int × Int)))) = some now →
          ∃ y', (grd (okI .i64 ((i : Int) + 1)) <|
            Option.bind (
              bif (decide (((i : Int) + 1) < (((List.length es) : Nat) : Int))) then
                grd (okIdx (i : Int) ((List.length es))) <|
                grd (okKin ((Int.toNat (i : Int))) ((List.length es))) <|
                Option.bind (m_ref35_At std ((List.getD es (Int.toNat (i : Int)) 0)) a) fun l143 =>
                Option.bind (m_ref35_At std ((List.getD es (Int.toNat (i : Int)) 0)) b) fun l144 =>
                Option.bind (m_ref35_mix std 1 l143 l144) fun l145 =>
                (some l145)
              else
                (some ([] : List (Int × Int))) : Option ((List (Int × Int)))) fun l147 =>
            Option.bind (m_ref12_Same std l147 last) fun b45 =>
            bif b45 then
              (some (Sum.inl (fm, ((i : Int) + 1), out, last)))
            else
              Option.bind (loop (m_ref35_Combine_L1 std fm (i : Int) last es) (0, out)) fun l149 =>
              grd (okIdx (i : Int) ((List.length es))) <|
              grd (okKin ((Int.toNat (i : Int))) ((List.length es))) <|
              (some (Sum.inl ((List.getD es (Int.toNat (i : Int)) 0), ((i : Int) + 1), l149, now))) : Option ((Int × Int × List Rc × List Sp) ⊕ (List Rc))) = some (Sum.inl y') ∧ y'.2.1 = ((i + 1 : Nat) : Int) ∧ (now = last → y' = (fm, ((i + 1 : Nat) : Int), out, last)) ∧ (now ≠ last → y' = (eAt es i, ((i + 1 : Nat) : Int), flatG (buildG (eAt es) F i), now)) := fun now hnl hnow => by
        by_cases hs : now = last
        · exact ⟨(fm, ((i + 1 : Nat) : Int), out, last), gI (by omega) (bB hnow (bB (p_Same _ _ hnl) (bT (dT hs) rfl))), rfl, fun _ => rfl, fun h => absurd hs h⟩
        · refine ⟨(eAt es i, ((i + 1 : Nat) : Int), flatG (buildG (eAt es) F i), now), gI (by omega) (bB hnow (bB (p_Same _ _ hnl) (bF (dF hs) (bB (p_flush hi fm last out (by omega) ?_) (gX (by omega) (gK (by omega) ?_)))))), rfl, fun h => absurd h hs, fun _ => rfl⟩
          · by_cases h0 : last = []
            · rw [h0]; simp
            · obtain ⟨g0, k1, k2⟩ := hc.some h0
              have := hbd i (by omega)
              have hi0 : last = F (i - 1) ∨ True := .inr trivial
              have hmem : (fm, eAt es i, last) ∈ buildG (eAt es) F i := by rw [k1]; simp
              have hall : ∀ (n : Nat), ∀ s ∈ buildG (eAt es) F n, s.2.2.length ≤ 1000 := by
                intro n
                induction n with
                | zero => intro s hs; cases hs
                | succ n ih =>
                  intro s hs
                  change s ∈ addG (buildG (eAt es) F n) (eAt es n, eAt es (n + 1), F n) at hs
                  by_cases hz : F n = []
                  · rw [addG_none _ hz] at hs; exact ih s hs
                  · rcases snoc_cases (buildG (eAt es) F n) with h1 | ⟨u, r, h1⟩
                    · rw [h1, addG_nil hz, List.mem_singleton] at hs
                      rw [hs]; exact (hf n).2.2
                    · rw [h1, addG_snoc u r hz] at hs
                      split at hs
                      · rcases List.mem_append.1 hs with hs | hs
                        · exact ih s (by rw [h1]; simp [hs])
                        · rw [List.mem_singleton.1 hs]; exact ih r (by rw [h1]; simp)
                      · rcases List.mem_append.1 hs with hs | hs
                        · exact ih s (by rw [h1]; exact hs)
                        · rw [List.mem_singleton.1 hs]; exact (hf n).2.2
              have := hall i _ hmem
              show last.length ≤ _
              have h3 : (fm, eAt es i, last).2.2.length = last.length := rfl
              omega
          · rw [hfl, e1]; rfl
      by_cases hi1 : i + 1 < es.length
      · have hlti := hlt i (by omega)
        obtain ⟨y', q1, q2, q3, q4⟩ := fin (F i) (by have := (hf i).2.2; omega) (bT (dT (by omega)) (gX (by omega) (gK (by omega) (by rw [e1]; exact bB (p_At ha (by omega) _) (bB (p_At hb (by omega) _) (bB (hf i).1 rfl))))))
        refine ⟨.inl y', ?_, ?_⟩
        · rw [← q1]
          refine bT (dT (by omega)) (congrArg (grd _) ?_)
          have hnow : (bif (decide (((i : Int) + 1) < (((List.length es) : Nat) : Int))) then
            grd (okIdx (i : Int) ((List.length es))) <|
            grd (okKin ((Int.toNat (i : Int))) ((List.length es))) <|
            Option.bind (m_ref35_At std ((List.getD es (Int.toNat (i : Int)) 0)) a) fun l143 =>
            Option.bind (m_ref35_At std ((List.getD es (Int.toNat (i : Int)) 0)) b) fun l144 =>
            Option.bind (m_ref35_mix std 1 l143 l144) fun l145 =>
            (some l145)
          else
            (some ([] : List (Int × Int))) : Option ((List (Int × Int)))) = some (F i) := bT (dT (by omega)) (gX (by omega) (gK (by omega) (by rw [e1]; exact bB (p_At ha (by omega) _) (bB (p_At hb (by omega) _) (bB (hf i).1 rfl)))))
          rw [hnow]; rfl
        · refine ⟨⟨i + 1, q2, .inl ⟨hi1, ?_⟩⟩, ?_⟩
          · by_cases hs : F i = last
            · rw [q3 hs]; exact hc.same hlti hs
            · rw [q4 hs]; exact hc.other hlti (hB i (by omega)).2.1 hs
          · show es.length - y'.2.1.toNat < es.length - Int.toNat (i : Int)
            rw [q2]; omega
      · have hin : i = es.length - 1 := by omega
        obtain ⟨y', q1, q2, q3, q4⟩ := fin [] (by simp) (bF (dF (by omega)) rfl)
        refine ⟨.inl y', ?_, ?_⟩
        · rw [← q1]
          refine bT (dT (by omega)) (congrArg (grd _) ?_)
          rw [show (decide (((i : Int) + 1) < (((List.length es) : Nat) : Int))) = false from dF (by omega)]; rfl
        · refine ⟨⟨i + 1, q2, .inr ⟨by omega, ?_⟩⟩, ?_⟩
          · by_cases hs : [] = last
            · rw [q3 hs]
              show out = _
              rw [← hin]; exact (hc.none hs.symm).1
            · rw [q4 hs]
              show flatG (buildG (eAt es) F i) = _
              rw [hin]
          · show es.length - y'.2.1.toNat < es.length - Int.toNat (i : Int)
            rw [q2]; omega
    · exact ⟨.inr out, bF (dF (by omega)) rfl, hc⟩)
  obtain ⟨e, h1, rfl⟩ := hlp
  exact h1
theorem p_rCombine_1 (a b : List Rc) (hla : a.length ≤ 50000) (hlb : b.length ≤ 50000) : m_ref35_Combine std 1 a b = some (resC rAnd a b) := by
  rw [m_ref35_Combine_eq, p_ref35_List a (by omega), p_ref35_List b (by omega)]
  unfold resC chk2
  cases h1 : lvB a with
  | false => exact bB (v := true) (bB rfl (bT rfl rfl)) (bT rfl rfl)
  | true =>
    cases h2 : lvB b with
    | false => exact bB (v := true) (bB rfl (bF rfl (bB rfl rfl))) (bT rfl rfl)
    | true =>
      refine bB (v := false) (bB rfl (bF rfl (bB rfl rfl))) (bF rfl ?_)
      simp only [Bool.and_self, if_true]
      by_cases h3 : a.length ≤ 500 ∧ b.length ≤ 500
      · rw [if_pos h3, if_pos rfl]
        obtain ⟨k1, k2, k3⟩ := esOf_ok a b
        refine bB (v := false) (bF (dF (by omega)) (congrArg some (dF (by omega)))) (bF rfl (bB (p_ends a b hla hlb) (bB (p_rCombine_L2_1 h1 h2 h3.1 h3.2 k1 (by omega)) ?_)))
        show (bif decide (500 < (((flatG (segC rAnd a b)).length : Nat) : Int)) then _ else _) = _
        by_cases h4 : (flatG (segC rAnd a b)).length ≤ 500
        · rw [if_pos h4]; exact bF (dF (by omega)) rfl
        · rw [if_neg h4]; exact bT (dT (by omega)) rfl
      · rw [if_neg h3, if_neg (by decide)]
        refine bB (v := true) ?_ (bT rfl rfl)
        by_cases h4 : a.length ≤ 500
        · exact bF (dF (by omega)) (congrArg some (dT (by omega)))
        · exact bT (dT (by omega)) rfl
theorem p_rCombine_L2_2 {a b : List Rc} (ha : lvB a = true) (hb : lvB b = true) (hla : a.length ≤ 500) (hlb : b.length ≤ 500) {es : List Int} (hes : es.Pairwise (· < ·)) (hen : es.length ≤ 5000) :
    loop (m_ref35_Combine_L2 std a b 2 es) (0, 0, ([] : List Rc), ([] : List Sp)) = some (flatG (buildG (eAt es) (fun i => opS rSub (tS a (eAt es i)) (tS b (eAt es i))) (es.length - 1))) := by
  obtain ⟨F, hF⟩ : ∃ F : Nat → List Sp, (fun i => opS rSub (tS a (eAt es i)) (tS b (eAt es i))) = F := ⟨_, rfl⟩
  have hf : ∀ i, m_ref35_mix std 2 (tS a (eAt es i)) (tS b (eAt es i)) = some (F i) ∧ OpOk rSub (tS a (eAt es i)) (tS b (eAt es i)) (F i) ∧ (F i).length ≤ 1000 := fun i => by
    have h1 := tS_len ha (eAt es i)
    have h2 := tS_len hb (eAt es i)
    have h3 := p_mix_2 (a := tS a (eAt es i)) (b := tS b (eAt es i)) (by omega) (by omega)
    have h4 := (IsRule.sub).op (tS_time ha (eAt es i)) (tS_time hb (eAt es i)) (by omega) (by omega)
    rw [← hF]; exact ⟨h3, h4, by have := h4.len; show (opS rSub _ _).length ≤ _; omega⟩
  have hlt := eAt_lt hes
  rw [hF]
  have hB := fun (i : Nat) (hi : i ≤ es.length - 1) => buildG_ok (E := eAt es) (F := F) (n := i) (fun j hj => hlt j (by omega)) (fun j _ => (hf j).2.1.can)
  have hbd : ∀ i, i ≤ es.length → (flatG (buildG (eAt es) F i)).length ≤ 5000000 := fun i hi => by
    have h1 := flatG_build_bd (E := eAt es) (F := F) (k := 1000) (n := i) (fun j _ => (hf j).2.2)
    omega
  have hlp := loop_is (B := m_ref35_Combine_L2 std a b 2 es) (y := (0, 0, ([] : List Rc), ([] : List Sp))) (fun y => ∃ i : Nat, y.2.1 = (i : Int) ∧ ((i < es.length ∧ RefI (eAt es) F i y.1 y.2.2.1 y.2.2.2) ∨ (i = es.length ∧ y.2.2.1 = flatG (buildG (eAt es) F (es.length - 1)))))
    (fun y => es.length - y.2.1.toNat) (fun e => e = flatG (buildG (eAt es) F (es.length - 1))) (by
      refine ⟨0, rfl, ?_⟩
      rcases Nat.eq_zero_or_pos es.length with h0 | h0
      · exact .inr ⟨h0.symm, by rw [h0]; rfl⟩
      · exact .inl ⟨h0, RefI.init _ _⟩) (by show _ - _ < _; omega) (by
    rintro ⟨fm, z, out, last⟩ ⟨i, h2, hc⟩
    change z = (i : Int) at h2
    subst h2
    rw [m_ref35_Combine_L2_eq]
    rcases hc with ⟨hi, hc⟩ | ⟨hi, hc⟩
    · change RefI (eAt es) F i fm out last at hc
      have hfl := hc.flush
      have hol : out.length ≤ 5000000 := by
        have := hbd i (by omega)
        rw [← hfl, List.length_append] at this
        omega
      have hll : last.length ≤ 5000000 := by
        have := hbd i (by omega)
        rw [← hfl, List.length_append, rcs_len] at this
        show last.length ≤ _
        have h3 : (fm, eAt es i, last).2.2.length = last.length := rfl
        omega
      have e1 : List.getD es (Int.toNat (i : Int)) 0 = eAt es i := by rw [Int.toNat_natCast]; rfl
      have fin : ∀ (now : List Sp), now.length ≤ 1000000 → (bif (decide (((i : Int) + 1) < (((List.length es) : Nat) : Int))) then
            grd (okIdx (i : Int) ((List.length es))) <|
            grd (okKin ((Int.toNat (i : Int))) ((List.length es))) <|
            Option.bind (m_ref35_At std ((List.getD es (Int.toNat (i : Int)) 0)) a) fun l143 =>
            Option.bind (m_ref35_At std ((List.getD es (Int.toNat (i : Int)) 0)) b) fun l144 =>
            Option.bind (m_ref35_mix std 2 l143 l144) fun l145 =>
            (some l145)
          else
            (some ([] : List (Int × Int))) : Option ((List (Int × Int)))) = some now →
          ∃ y', (grd (okI .i64 ((i : Int) + 1)) <|
            Option.bind (
              bif (decide (((i : Int) + 1) < (((List.length es) : Nat) : Int))) then
                grd (okIdx (i : Int) ((List.length es))) <|
                grd (okKin ((Int.toNat (i : Int))) ((List.length es))) <|
                Option.bind (m_ref35_At std ((List.getD es (Int.toNat (i : Int)) 0)) a) fun l143 =>
                Option.bind (m_ref35_At std ((List.getD es (Int.toNat (i : Int)) 0)) b) fun l144 =>
                Option.bind (m_ref35_mix std 2 l143 l144) fun l145 =>
                (some l145)
              else
                (some ([] : List (Int × Int))) : Option ((List (Int × Int)))) fun l147 =>
            Option.bind (m_ref12_Same std l147 last) fun b45 =>
            bif b45 then
              (some (Sum.inl (fm, ((i : Int) + 1), out, last)))
            else
              Option.bind (loop (m_ref35_Combine_L1 std fm (i : Int) last es) (0, out)) fun l149 =>
              grd (okIdx (i : Int) ((List.length es))) <|
              grd (okKin ((Int.toNat (i : Int))) ((List.length es))) <|
              (some (Sum.inl ((List.getD es (Int.toNat (i : Int)) 0), ((i : Int) + 1), l149, now))) : Option ((Int × Int × List Rc × List Sp) ⊕ (List Rc))) = some (Sum.inl y') ∧ y'.2.1 = ((i + 1 : Nat) : Int) ∧ (now = last → y' = (fm, ((i + 1 : Nat) : Int), out, last)) ∧ (now ≠ last → y' = (eAt es i, ((i + 1 : Nat) : Int), flatG (buildG (eAt es) F i), now)) := fun now hnl hnow => by
        by_cases hs : now = last
        · exact ⟨(fm, ((i + 1 : Nat) : Int), out, last), gI (by omega) (bB hnow (bB (p_Same _ _ hnl) (bT (dT hs) rfl))), rfl, fun _ => rfl, fun h => absurd hs h⟩
        · refine ⟨(eAt es i, ((i + 1 : Nat) : Int), flatG (buildG (eAt es) F i), now), gI (by omega) (bB hnow (bB (p_Same _ _ hnl) (bF (dF hs) (bB (p_flush hi fm last out (by omega) ?_) (gX (by omega) (gK (by omega) ?_)))))), rfl, fun h => absurd h hs, fun _ => rfl⟩
          · by_cases h0 : last = []
            · rw [h0]; simp
            · obtain ⟨g0, k1, k2⟩ := hc.some h0
              have := hbd i (by omega)
              have hi0 : last = F (i - 1) ∨ True := .inr trivial
              have hmem : (fm, eAt es i, last) ∈ buildG (eAt es) F i := by rw [k1]; simp
              have hall : ∀ (n : Nat), ∀ s ∈ buildG (eAt es) F n, s.2.2.length ≤ 1000 := by
                intro n
                induction n with
                | zero => intro s hs; cases hs
                | succ n ih =>
                  intro s hs
                  change s ∈ addG (buildG (eAt es) F n) (eAt es n, eAt es (n + 1), F n) at hs
                  by_cases hz : F n = []
                  · rw [addG_none _ hz] at hs; exact ih s hs
                  · rcases snoc_cases (buildG (eAt es) F n) with h1 | ⟨u, r, h1⟩
                    · rw [h1, addG_nil hz, List.mem_singleton] at hs
                      rw [hs]; exact (hf n).2.2
                    · rw [h1, addG_snoc u r hz] at hs
                      split at hs
                      · rcases List.mem_append.1 hs with hs | hs
                        · exact ih s (by rw [h1]; simp [hs])
                        · rw [List.mem_singleton.1 hs]; exact ih r (by rw [h1]; simp)
                      · rcases List.mem_append.1 hs with hs | hs
                        · exact ih s (by rw [h1]; exact hs)
                        · rw [List.mem_singleton.1 hs]; exact (hf n).2.2
              have := hall i _ hmem
              show last.length ≤ _
              have h3 : (fm, eAt es i, last).2.2.length = last.length := rfl
              omega
          · rw [hfl, e1]; rfl
      by_cases hi1 : i + 1 < es.length
      · have hlti := hlt i (by omega)
        obtain ⟨y', q1, q2, q3, q4⟩ := fin (F i) (by have := (hf i).2.2; omega) (bT (dT (by omega)) (gX (by omega) (gK (by omega) (by rw [e1]; exact bB (p_At ha (by omega) _) (bB (p_At hb (by omega) _) (bB (hf i).1 rfl))))))
        refine ⟨.inl y', ?_, ?_⟩
        · rw [← q1]
          refine bT (dT (by omega)) (congrArg (grd _) ?_)
          have hnow : (bif (decide (((i : Int) + 1) < (((List.length es) : Nat) : Int))) then
            grd (okIdx (i : Int) ((List.length es))) <|
            grd (okKin ((Int.toNat (i : Int))) ((List.length es))) <|
            Option.bind (m_ref35_At std ((List.getD es (Int.toNat (i : Int)) 0)) a) fun l143 =>
            Option.bind (m_ref35_At std ((List.getD es (Int.toNat (i : Int)) 0)) b) fun l144 =>
            Option.bind (m_ref35_mix std 2 l143 l144) fun l145 =>
            (some l145)
          else
            (some ([] : List (Int × Int))) : Option ((List (Int × Int)))) = some (F i) := bT (dT (by omega)) (gX (by omega) (gK (by omega) (by rw [e1]; exact bB (p_At ha (by omega) _) (bB (p_At hb (by omega) _) (bB (hf i).1 rfl)))))
          rw [hnow]; rfl
        · refine ⟨⟨i + 1, q2, .inl ⟨hi1, ?_⟩⟩, ?_⟩
          · by_cases hs : F i = last
            · rw [q3 hs]; exact hc.same hlti hs
            · rw [q4 hs]; exact hc.other hlti (hB i (by omega)).2.1 hs
          · show es.length - y'.2.1.toNat < es.length - Int.toNat (i : Int)
            rw [q2]; omega
      · have hin : i = es.length - 1 := by omega
        obtain ⟨y', q1, q2, q3, q4⟩ := fin [] (by simp) (bF (dF (by omega)) rfl)
        refine ⟨.inl y', ?_, ?_⟩
        · rw [← q1]
          refine bT (dT (by omega)) (congrArg (grd _) ?_)
          rw [show (decide (((i : Int) + 1) < (((List.length es) : Nat) : Int))) = false from dF (by omega)]; rfl
        · refine ⟨⟨i + 1, q2, .inr ⟨by omega, ?_⟩⟩, ?_⟩
          · by_cases hs : [] = last
            · rw [q3 hs]
              show out = _
              rw [← hin]; exact (hc.none hs.symm).1
            · rw [q4 hs]
              show flatG (buildG (eAt es) F i) = _
              rw [hin]
          · show es.length - y'.2.1.toNat < es.length - Int.toNat (i : Int)
            rw [q2]; omega
    · exact ⟨.inr out, bF (dF (by omega)) rfl, hc⟩)
  obtain ⟨e, h1, rfl⟩ := hlp
  exact h1
theorem p_rCombine_2 (a b : List Rc) (hla : a.length ≤ 50000) (hlb : b.length ≤ 50000) : m_ref35_Combine std 2 a b = some (resC rSub a b) := by
  rw [m_ref35_Combine_eq, p_ref35_List a (by omega), p_ref35_List b (by omega)]
  unfold resC chk2
  cases h1 : lvB a with
  | false => exact bB (v := true) (bB rfl (bT rfl rfl)) (bT rfl rfl)
  | true =>
    cases h2 : lvB b with
    | false => exact bB (v := true) (bB rfl (bF rfl (bB rfl rfl))) (bT rfl rfl)
    | true =>
      refine bB (v := false) (bB rfl (bF rfl (bB rfl rfl))) (bF rfl ?_)
      simp only [Bool.and_self, if_true]
      by_cases h3 : a.length ≤ 500 ∧ b.length ≤ 500
      · rw [if_pos h3, if_pos rfl]
        obtain ⟨k1, k2, k3⟩ := esOf_ok a b
        refine bB (v := false) (bF (dF (by omega)) (congrArg some (dF (by omega)))) (bF rfl (bB (p_ends a b hla hlb) (bB (p_rCombine_L2_2 h1 h2 h3.1 h3.2 k1 (by omega)) ?_)))
        show (bif decide (500 < (((flatG (segC rSub a b)).length : Nat) : Int)) then _ else _) = _
        by_cases h4 : (flatG (segC rSub a b)).length ≤ 500
        · rw [if_pos h4]; exact bF (dF (by omega)) rfl
        · rw [if_neg h4]; exact bT (dT (by omega)) rfl
      · rw [if_neg h3, if_neg (by decide)]
        refine bB (v := true) ?_ (bT rfl rfl)
        by_cases h4 : a.length ≤ 500
        · exact bF (dF (by omega)) (congrArg some (dT (by omega)))
        · exact bT (dT (by omega)) rfl
end
end Go.Proofs.Ytkdffpncpikdmaa
