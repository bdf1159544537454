/-
  Out of XHP, XHA, XH10, XH11, XH12, XH13: what this seat has models for (made by slim.py).
-/
import Derived.Test.YtebkfbkgmbgobaaKQ
import Derived.Test.YtebkfbkgmbgobaaPure
namespace Go.Proofs.Ytebkfbkgmbgobaa.Pe
open Go.RowKit Go.Proofs.Ytebkfbkgmbgobaa
section
section
def Mem (l : List (Int × Int)) (x : Int) : Prop := ∃ s ∈ l, s.1 ≤ x ∧ x < s.2
def memB (l : List (Int × Int)) (x : Int) : Bool := l.any fun s => decide (s.1 ≤ x) && decide (x < s.2)
theorem memB_iff {l : List (Int × Int)} {x : Int} : memB l x = true ↔ Mem l x := by simp [memB, Mem]
theorem memB_false {l : List (Int × Int)} {x : Int} : memB l x = false ↔ ¬ Mem l x := by rw [← memB_iff]; simp
theorem mem_nil (x : Int) : ¬ Mem [] x := fun ⟨_, h, _⟩ => by cases h
theorem mem_cons {s : Int × Int} {l : List (Int × Int)} {x : Int} : Mem (s :: l) x ↔ (s.1 ≤ x ∧ x < s.2) ∨ Mem l x := by
  simp [Mem]
theorem mem_app {l l' : List (Int × Int)} {x : Int} : Mem (l ++ l') x ↔ Mem l x ∨ Mem l' x := by
  simp only [Mem, List.mem_append]
  constructor
  · rintro ⟨s, h | h, h2⟩
    · exact .inl ⟨s, h, h2⟩
    · exact .inr ⟨s, h, h2⟩
  · rintro (⟨s, h, h2⟩ | ⟨s, h, h2⟩)
    · exact ⟨s, .inl h, h2⟩
    · exact ⟨s, .inr h, h2⟩
theorem mem_one {s : Int × Int} {x : Int} : Mem [s] x ↔ s.1 ≤ x ∧ x < s.2 := by simp [Mem]
theorem mem_perm {l l' : List (Int × Int)} (h : l.Perm l') {x : Int} : Mem l x ↔ Mem l' x := by
  unfold Mem
  exact ⟨fun ⟨s, h1, h2⟩ => ⟨s, h.mem_iff.1 h1, h2⟩, fun ⟨s, h1, h2⟩ => ⟨s, h.mem_iff.2 h1, h2⟩⟩

/-- spans that are not empty, apart from one another, in order -/
structure Can (l : List (Int × Int)) : Prop where
  ne : ∀ s ∈ l, s.1 < s.2
  pw : l.Pairwise fun a b => a.2 < b.1
theorem Can.nil : Can [] := ⟨fun s h => (by cases h), List.Pairwise.nil⟩
theorem Can.tail {s : Int × Int} {l : List (Int × Int)} (h : Can (s :: l)) : Can l := ⟨fun t ht => h.ne t (List.mem_cons_of_mem _ ht), (List.pairwise_cons.1 h.pw).2⟩
theorem Can.one {s : Int × Int} (h : s.1 < s.2) : Can [s] := ⟨fun t ht => by rw [List.mem_singleton.1 ht]; exact h, List.pairwise_singleton _ _⟩
theorem Can.snoc {l : List (Int × Int)} {s : Int × Int} (h : Can l) (hs : s.1 < s.2) (hl : ∀ t ∈ l, t.2 < s.1) : Can (l ++ [s]) := by
  refine ⟨fun t ht => ?_, List.pairwise_append.2 ⟨h.pw, List.pairwise_singleton _ _, fun t ht u hu => ?_⟩⟩
  · rcases List.mem_append.1 ht with ht | ht
    · exact h.ne t ht
    · rw [List.mem_singleton.1 ht]; exact hs
  · rw [List.mem_singleton.1 hu]; exact hl t ht
theorem Can.init {l : List (Int × Int)} {s : Int × Int} (h : Can (l ++ [s])) : Can l ∧ s.1 < s.2 ∧ ∀ t ∈ l, t.2 < s.1 := by
  obtain ⟨h1, _, h3⟩ := List.pairwise_append.1 h.pw
  exact ⟨⟨fun t ht => h.ne t (List.mem_append_left _ ht), h1⟩, h.ne s (by simp), fun t ht => h3 t ht s (by simp)⟩
theorem Can.last_le {l : List (Int × Int)} {s : Int × Int} (h : Can (l ++ [s])) : ∀ t ∈ l ++ [s], t.2 ≤ s.2 := by
  obtain ⟨_, h2, h3⟩ := h.init
  intro t ht
  rcases List.mem_append.1 ht with ht | ht
  · have := h3 t ht; omega
  · rw [List.mem_singleton.1 ht]; exact Int.le_refl _
theorem Can.cons_lt {s : Int × Int} {l : List (Int × Int)} (h : Can (s :: l)) {x : Int} (hx : Mem l x) : s.2 < x := by
  obtain ⟨t, ht, h1, h2⟩ := hx
  have := (List.pairwise_cons.1 h.pw).1 t ht
  omega
/-- a canonical list is known by its members -/
theorem can_unique : ∀ {l l' : List (Int × Int)}, Can l → Can l' → (∀ x, Mem l x ↔ Mem l' x) → l = l' := by
  intro l
  induction l with
  | nil =>
    intro l' _ h' hm
    cases l' with
    | nil => rfl
    | cons t l' =>
      have := (hm t.1).2 (mem_cons.2 (.inl ⟨Int.le_refl _, h'.ne t (by simp)⟩))
      exact absurd this (mem_nil _)
  | cons s l ih =>
    intro l' h h' hm
    cases l' with
    | nil =>
      have := (hm s.1).1 (mem_cons.2 (.inl ⟨Int.le_refl _, h.ne s (by simp)⟩))
      exact absurd this (mem_nil _)
    | cons t l' =>
      have hs := h.ne s (by simp)
      have ht := h'.ne t (by simp)
      have h1 := (hm s.1).1 (mem_cons.2 (.inl ⟨Int.le_refl _, hs⟩))
      have h2 := (hm t.1).2 (mem_cons.2 (.inl ⟨Int.le_refl _, ht⟩))
      have a1 : t.1 ≤ s.1 := by
        rcases mem_cons.1 h1 with h3 | h3
        · exact h3.1
        · have := h'.cons_lt h3; omega
      have a2 : s.1 ≤ t.1 := by
        rcases mem_cons.1 h2 with h3 | h3
        · exact h3.1
        · have := h.cons_lt h3; omega
      have b1 : s.2 ≤ t.2 := by
        rcases Int.lt_or_le t.2 s.2 with h3 | h3
        · exfalso
          have h4 := (hm t.2).1 (mem_cons.2 (.inl ⟨by omega, h3⟩))
          rcases mem_cons.1 h4 with h5 | h5
          · omega
          · have := h'.cons_lt h5; omega
        · exact h3
      have b2 : t.2 ≤ s.2 := by
        rcases Int.lt_or_le s.2 t.2 with h3 | h3
        · exfalso
          have h4 := (hm s.2).2 (mem_cons.2 (.inl ⟨by omega, h3⟩))
          rcases mem_cons.1 h4 with h5 | h5
          · omega
          · have := h.cons_lt h5; omega
        · exact h3
      have hst : s = t := Prod.ext (by omega) (by omega)
      subst hst
      congr 1
      refine ih h.tail h'.tail fun x => ⟨fun hx => ?_, fun hx => ?_⟩
      · have h3 := h.cons_lt hx
        rcases mem_cons.1 ((hm x).1 (mem_cons.2 (.inr hx))) with h4 | h4
        · omega
        · exact h4
      · have h3 := h'.cons_lt hx
        rcases mem_cons.1 ((hm x).2 (mem_cons.2 (.inr hx))) with h4 | h4
        · omega
        · exact h4

/-! one span more, that begins where the last one ends, or behind it -/
def addS (l : List (Int × Int)) (s : Int × Int) : List (Int × Int) :=
  match l.getLast? with
  | some t => if t.2 = s.1 then l.dropLast ++ [(t.1, s.2)] else l ++ [s]
  | none => l ++ [s]
theorem addS_nil (s : Int × Int) : addS [] s = [s] := rfl
theorem addS_snoc (l : List (Int × Int)) (t s : Int × Int) : addS (l ++ [t]) s = if t.2 = s.1 then l ++ [(t.1, s.2)] else l ++ [t] ++ [s] := by
  simp [addS]
theorem addS_ok {l : List (Int × Int)} {s : Int × Int} (h : Can l) (hs : s.1 < s.2) (hl : ∀ t ∈ l, t.2 ≤ s.1) : Can (addS l s) ∧ (∀ x, Mem (addS l s) x ↔ Mem l x ∨ (s.1 ≤ x ∧ x < s.2)) ∧ ∀ t ∈ addS l s, t.2 ≤ s.2 := by
  rcases List.eq_nil_or_concat l with rfl | ⟨l, t, rfl⟩
  · rw [addS_nil]
    exact ⟨Can.one hs, fun x => by rw [mem_one]; simp [mem_nil], fun t ht => by rw [List.mem_singleton.1 ht]; exact Int.le_refl _⟩
  · rw [List.concat_eq_append] at h hl ⊢
    rw [addS_snoc]
    obtain ⟨h1, h2, h3⟩ := h.init
    have ht := hl t (by simp)
    by_cases e : t.2 = s.1
    · rw [if_pos e]
      refine ⟨h1.snoc (by simp only []; omega) h3, fun x => ?_, fun u hu => ?_⟩
      · rw [mem_app, mem_app, mem_one, mem_one]
        simp only []
        constructor
        · rintro (h | ⟨h, h'⟩)
          · exact .inl (.inl h)
          · by_cases hx : x < t.2
            · exact .inl (.inr ⟨h, hx⟩)
            · exact .inr ⟨by omega, h'⟩
        · rintro ((h | h) | h)
          · exact .inl h
          · exact .inr ⟨h.1, by omega⟩
          · exact .inr ⟨by omega, h.2⟩
      · rcases List.mem_append.1 hu with hu | hu
        · have := h3 u hu; omega
        · rw [List.mem_singleton.1 hu]; exact Int.le_refl _
    · rw [if_neg e]
      refine ⟨h.snoc hs fun u hu => ?_, fun x => by rw [mem_app, mem_one], fun u hu => ?_⟩
      · have := h.last_le u hu; omega
      · rcases List.mem_append.1 hu with hu | hu
        · have := hl u hu; omega
        · rw [List.mem_singleton.1 hu]; exact Int.le_refl _

/-! a span that begins behind where the last one begins -/
def joinS (l : List (Int × Int)) (s : Int × Int) : List (Int × Int) :=
  match l.getLast? with
  | some t => if s.1 ≤ t.2 then l.dropLast ++ [(t.1, max t.2 s.2)] else l ++ [s]
  | none => l ++ [s]
theorem joinS_nil (s : Int × Int) : joinS [] s = [s] := rfl
theorem joinS_snoc (l : List (Int × Int)) (t s : Int × Int) : joinS (l ++ [t]) s = if s.1 ≤ t.2 then l ++ [(t.1, max t.2 s.2)] else l ++ [t] ++ [s] := by
  simp [joinS]
theorem joinS_ok {l : List (Int × Int)} {s : Int × Int} (h : Can l) (hs : s.1 < s.2) (hl : ∀ t ∈ l, t.1 ≤ s.1) : Can (joinS l s) ∧ (∀ x, Mem (joinS l s) x ↔ Mem l x ∨ (s.1 ≤ x ∧ x < s.2)) ∧ ∀ t ∈ joinS l s, t.1 ≤ s.1 := by
  rcases List.eq_nil_or_concat l with rfl | ⟨l, t, rfl⟩
  · rw [joinS_nil]
    exact ⟨Can.one hs, fun x => by rw [mem_one]; simp [mem_nil], fun t ht => by rw [List.mem_singleton.1 ht]; exact Int.le_refl _⟩
  · rw [List.concat_eq_append] at h hl ⊢
    rw [joinS_snoc]
    obtain ⟨h1, h2, h3⟩ := h.init
    have ht := hl t (by simp)
    by_cases e : s.1 ≤ t.2
    · rw [if_pos e]
      refine ⟨h1.snoc (by simp only []; omega) h3, fun x => ?_, fun u hu => ?_⟩
      · rw [mem_app, mem_app, mem_one, mem_one]
        simp only []
        constructor
        · rintro (h | ⟨h, h'⟩)
          · exact .inl (.inl h)
          · by_cases hx : x < t.2
            · exact .inl (.inr ⟨h, hx⟩)
            · exact .inr ⟨by omega, by omega⟩
        · rintro ((h | h) | h)
          · exact .inl h
          · exact .inr ⟨h.1, by omega⟩
          · exact .inr ⟨by omega, by omega⟩
      · rcases List.mem_append.1 hu with hu | hu
        · exact hl u (by simp [hu])
        · rw [List.mem_singleton.1 hu]; exact ht
    · rw [if_neg e]
      refine ⟨h.snoc hs fun u hu => ?_, fun x => by rw [mem_app, mem_one], fun u hu => ?_⟩
      · have := h.last_le u hu; omega
      · rcases List.mem_append.1 hu with hu | hu
        · exact hl u hu
        · rw [List.mem_singleton.1 hu]; exact Int.le_refl _
/-- the canonical list of spans that lie in order of their beginnings -/
def joinL (l : List (Int × Int)) : List (Int × Int) := l.foldl joinS []
theorem joinL_ok : ∀ {l : List (Int × Int)} {acc : List (Int × Int)}, Can acc → (∀ s ∈ l, s.1 < s.2) → l.Pairwise (fun a b => a.1 ≤ b.1) → (∀ t ∈ acc, ∀ s ∈ l, t.1 ≤ s.1) →
    Can (l.foldl joinS acc) ∧ ∀ x, Mem (l.foldl joinS acc) x ↔ Mem acc x ∨ Mem l x := by
  intro l
  induction l with
  | nil => intro acc h _ _ _; exact ⟨h, fun x => by simp [mem_nil]⟩
  | cons s l ih =>
    intro acc h hn hp hl
    obtain ⟨p1, p2⟩ := List.pairwise_cons.1 hp
    obtain ⟨a1, a2, a3⟩ := joinS_ok h (hn s (by simp)) (fun t ht => hl t ht s (by simp))
    obtain ⟨b1, b2⟩ := ih a1 (fun t ht => hn t (by simp [ht])) p2 (fun t ht u hu => by
      have := a3 t ht
      have := p1 u hu
      omega)
    refine ⟨b1, fun x => ?_⟩
    rw [List.foldl_cons, b2, a2, mem_cons, or_assoc]
/-- the canonical list of any spans -/
theorem joinL_mem {l : List (Int × Int)} (hn : ∀ s ∈ l, s.1 < s.2) (hp : l.Pairwise (fun a b => a.1 ≤ b.1)) : Can (joinL l) ∧ ∀ x, Mem (joinL l) x ↔ Mem l x := by
  obtain ⟨h1, h2⟩ := joinL_ok Can.nil hn hp (fun t ht => by cases ht)
  exact ⟨h1, fun x => by rw [joinL, h2]; simp [mem_nil]⟩
end
section
theorem mem_idx {l : List Sp} {x : Int} : Mem l x ↔ ∃ j, j < l.length ∧ fr l j ≤ x ∧ x < tt l j := by
  constructor
  · rintro ⟨s, hs, h⟩
    obtain ⟨j, hj, rfl⟩ := List.getElem_of_mem hs
    rw [list_fr l hj] at h
    exact ⟨j, hj, h⟩
  · rintro ⟨j, hj, h⟩
    refine ⟨l[j], List.getElem_mem hj, ?_⟩
    rw [list_fr l hj]
    exact h
theorem Can.ne' {l : List Sp} (h : Can l) {j : Nat} (hj : j < l.length) : fr l j < tt l j := by
  have := h.ne l[j] (List.getElem_mem hj)
  rw [list_fr l hj] at this
  exact this
theorem Can.lt {l : List Sp} (h : Can l) {j k : Nat} (hjk : j < k) (hk : k < l.length) : tt l j < fr l k := by
  have := List.pairwise_iff_getElem.1 h.pw j k (by omega) hk hjk
  rw [list_fr l (show j < l.length by omega), list_fr l hk] at this
  exact this
theorem Can.mk' {l : List Sp} (h1 : ∀ j, j < l.length → fr l j < tt l j) (h2 : ∀ j, j + 1 < l.length → tt l j < fr l (j + 1)) : Can l := by
  have h3 : ∀ k j, j < k → k < l.length → tt l j < fr l k := by
    intro k
    induction k with
    | zero => intro j h; omega
    | succ k ih =>
      intro j hj hk
      by_cases e : j = k
      · subst e; exact h2 j hk
      · have := ih j (by omega) (by omega)
        have := h1 k (by omega)
        have := h2 k hk
        omega
  refine ⟨fun s hs => ?_, List.pairwise_iff_getElem.2 fun i j hi hj hij => ?_⟩
  · obtain ⟨j, hj, rfl⟩ := List.getElem_of_mem hs
    rw [list_fr l hj]
    exact h1 j hj
  · rw [list_fr l hi, list_fr l hj]
    exact h3 j i hij hj

/-! the ends: 2k is where span k begins, 2k + 1 where it ends -/
def endL (l : List Sp) (n : Nat) : Int := if n % 2 = 0 then fr l (n / 2) else tt l (n / 2)
theorem endL_even (l : List Sp) (k : Nat) : endL l (2 * k) = fr l k := by unfold endL; rw [if_pos (by omega)]; congr 1; omega
theorem endL_odd (l : List Sp) (k : Nat) : endL l (2 * k + 1) = tt l k := by unfold endL; rw [if_neg (by omega)]; congr 1; omega
theorem endL_up {l : List Sp} (h : Can l) {n : Nat} (hn : n + 1 < 2 * l.length) : endL l n < endL l (n + 1) := by
  rcases Nat.mod_two_eq_zero_or_one n with h0 | h0
  · obtain ⟨k, rfl⟩ : ∃ k, n = 2 * k := ⟨n / 2, by omega⟩
    rw [endL_even, endL_odd]
    exact h.ne' (by omega)
  · obtain ⟨k, rfl⟩ : ∃ k, n = 2 * k + 1 := ⟨n / 2, by omega⟩
    rw [endL_odd, show 2 * k + 1 + 1 = 2 * (k + 1) by omega, endL_even]
    exact h.lt (by omega) (by omega)
theorem endL_mono {l : List Sp} (h : Can l) : ∀ {m n : Nat}, m < n → n < 2 * l.length → endL l m < endL l n := by
  intro m n
  induction n with
  | zero => intro h; omega
  | succ n ih =>
    intro hm hn
    have h1 := endL_up h hn
    by_cases e : m = n
    · subst e; exact h1
    · have := ih (by omega) (by omega); omega
/-- behind n ends, ahead of the next one -/
theorem endL_mem {l : List Sp} (h : Can l) {n : Nat} {x : Int} (hn : n ≤ 2 * l.length) (h1 : n = 0 ∨ endL l (n - 1) ≤ x) (h2 : n = 2 * l.length ∨ x < endL l n) : Mem l x ↔ n % 2 = 1 := by
  rw [mem_idx]
  rcases Nat.mod_two_eq_zero_or_one n with h0 | h0
  · refine ⟨fun ⟨j, hj, a, b⟩ => ?_, fun e => by omega⟩
    exfalso
    obtain ⟨k, rfl⟩ : ∃ k, n = 2 * k := ⟨n / 2, by omega⟩
    rcases Nat.lt_or_ge j k with hjk | hjk
    · have e1 : endL l (2 * k - 1) = tt l (k - 1) := by rw [show 2 * k - 1 = 2 * (k - 1) + 1 by omega, endL_odd]
      rw [e1] at h1
      by_cases e : j = k - 1
      · subst e; omega
      · have := h.lt (show j < k - 1 by omega) (by omega)
        have := h.ne' (show k - 1 < l.length by omega)
        omega
    · rw [endL_even] at h2
      by_cases e : j = k
      · subst e; omega
      · have := h.lt (show k < j by omega) hj
        have := h.ne' (show k < l.length by omega)
        omega
  · refine ⟨fun _ => h0, fun _ => ?_⟩
    obtain ⟨k, rfl⟩ : ∃ k, n = 2 * k + 1 := ⟨n / 2, by omega⟩
    refine ⟨k, by omega, ?_, ?_⟩
    · rw [show 2 * k + 1 - 1 = 2 * k by omega, endL_even] at h1; omega
    · rw [endL_odd] at h2; omega

/-! a list cut out by a rule, at ascending cuts -/
def cutL (f : Int → Bool) (c : Nat → Int) : Nat → List Sp
  | 0 => []
  | i + 1 => if f (c i) = true ∧ c i < c (i + 1) then addS (cutL f c i) (c i, c (i + 1)) else cutL f c i
theorem cutL_ok {f : Int → Bool} {c : Nat → Int} : ∀ {n : Nat}, (∀ i, i < n → c i ≤ c (i + 1)) → (∀ i, i < n → ∀ x, c i ≤ x → x < c (i + 1) → f x = f (c i)) →
    Can (cutL f c n) ∧ (∀ t ∈ cutL f c n, t.2 ≤ c n) ∧ ∀ x, Mem (cutL f c n) x ↔ c 0 ≤ x ∧ x < c n ∧ f x = true := by
  intro n
  induction n with
  | zero => intro _ _; exact ⟨Can.nil, (fun t ht => (by cases ht)), fun x => ⟨fun h => absurd h (mem_nil x), fun ⟨h1, h2, _⟩ => by omega⟩⟩
  | succ n ih =>
    intro h1 h2
    obtain ⟨a1, a2, a3⟩ := ih (fun i hi => h1 i (by omega)) (fun i hi => h2 i (by omega))
    have h0 : ∀ k, k ≤ n → c 0 ≤ c k := by
      intro k
      induction k with
      | zero => intro _; exact Int.le_refl _
      | succ k ihk => intro hk; have := ihk (by omega); have := h1 k (by omega); omega
    have hc := h0 n (Nat.le_refl _)
    have hn := h1 n (by omega)
    unfold cutL
    by_cases h : f (c n) = true ∧ c n < c (n + 1)
    · rw [if_pos h]
      obtain ⟨b1, b2, b3⟩ := addS_ok (s := (c n, c (n + 1))) a1 h.2 a2
      refine ⟨b1, b3, fun x => ?_⟩
      rw [b2, a3]
      simp only []
      constructor
      · rintro (⟨h3, h4, h5⟩ | ⟨h3, h4⟩)
        · exact ⟨h3, by omega, h5⟩
        · exact ⟨by omega, h4, by rw [h2 n (by omega) x h3 h4]; exact h.1⟩
      · rintro ⟨h3, h4, h5⟩
        by_cases hx : x < c n
        · exact .inl ⟨h3, hx, h5⟩
        · exact .inr ⟨by omega, h4⟩
    · rw [if_neg h]
      refine ⟨a1, fun t ht => by have := a2 t ht; omega, fun x => ?_⟩
      rw [a3]
      constructor
      · rintro ⟨h3, h4, h5⟩
        exact ⟨h3, by omega, h5⟩
      · rintro ⟨h3, h4, h5⟩
        refine ⟨h3, ?_, h5⟩
        rcases Int.lt_or_le x (c n) with hx | hx
        · exact hx
        · exfalso
          rw [h2 n (by omega) x hx h4] at h5
          exact h ⟨h5, by omega⟩
end
section
/-- a set of period P, by its list in [0, P) -/
def PS (P : Int) (l : List Sp) (x : Int) : Prop := Mem l (x % P)
def InvQ (P : Int) (l : List Sp) (q : Int) : Prop := ∀ x, PS P l (x + q) ↔ PS P l x
def Chg (P : Int) (l : List Sp) (c : Int) : Prop := ¬ (PS P l (c - 1) ↔ PS P l c)
theorem PS_per {P : Int} {l : List Sp} (x t : Int) : PS P l (x + P * t) ↔ PS P l x := by unfold PS; rw [Int.add_mul_emod_self_left]
theorem Chg_per {P : Int} {l : List Sp} (c t : Int) : Chg P l (c + P * t) ↔ Chg P l c := by
  unfold Chg
  have e : c + P * t - 1 = c - 1 + P * t := by omega
  rw [e, PS_per, PS_per]
theorem InvQ.chg {P : Int} {l : List Sp} {q : Int} (h : InvQ P l q) (c : Int) : Chg P l (c + q) ↔ Chg P l c := by
  unfold Chg
  have e : c + q - 1 = c - 1 + q := by omega
  rw [e, h, h]
theorem InvQ.mul {P : Int} {l : List Sp} {q : Int} (h : InvQ P l q) : ∀ t : Nat, InvQ P l (q * t) := by
  intro t
  induction t with
  | zero => intro x; simp
  | succ t ih =>
    intro x
    have e : x + q * ((t + 1 : Nat) : Int) = x + q * t + q := by rw [Int.natCast_add, Int.mul_add]; omega
    rw [e, h, ih]
theorem InvQ.self (P : Int) (l : List Sp) : InvQ P l P := fun x => by
  have := PS_per (P := P) (l := l) x 1
  rwa [Int.mul_one] at this

/-! the changes of a period, in order, go on for ever -/
structure ChL (P : Int) (l : List Sp) (C : List Int) : Prop where
  p1 : 1 ≤ P
  n0 : 0 < C.length
  up : C.Pairwise (· < ·)
  mem : ∀ c, c ∈ C ↔ 0 ≤ c ∧ c < P ∧ Chg P l c
def seqE (P : Int) (C : List Int) (i : Int) : Int := C.getD (i % (C.length : Int)).toNat 0 + P * (i / (C.length : Int))
section
variable {P : Int} {l : List Sp} {C : List Int}
theorem ChL.at (h : ChL P l C) {j : Nat} (hj : j < C.length) : 0 ≤ C.getD j 0 ∧ C.getD j 0 < P ∧ Chg P l (C.getD j 0) := by
  have : C.getD j 0 = C[j] := by simp [List.getD_eq_getElem?_getD, hj]
  rw [this]
  exact (h.mem _).1 (List.getElem_mem hj)
theorem ChL.lt (h : ChL P l C) {j k : Nat} (hjk : j < k) (hk : k < C.length) : C.getD j 0 < C.getD k 0 := by
  have e1 : C.getD j 0 = C[j] := by simp [List.getD_eq_getElem?_getD, show j < C.length by omega]
  have e2 : C.getD k 0 = C[k] := by simp [List.getD_eq_getElem?_getD, hk]
  rw [e1, e2]
  exact List.pairwise_iff_getElem.1 h.up j k (by omega) hk hjk
theorem seqE_mk (P : Int) {C : List Int} (t : Int) {j : Nat} (hj : j < C.length) : seqE P C ((C.length : Int) * t + j) = C.getD j 0 + P * t := by
  have e1 : ((C.length : Int) * t + (j : Int)) % (C.length : Int) = j := by
    rw [Int.add_comm, Int.add_mul_emod_self_left, Int.emod_eq_of_lt (by omega) (by omega)]
  have e2 : ((C.length : Int) * t + (j : Int)) / (C.length : Int) = t := by
    rw [Int.add_comm, Int.add_mul_ediv_left _ _ (by omega), Int.ediv_eq_zero_of_lt (by omega) (by omega)]; omega
  unfold seqE
  rw [e1, e2, Int.toNat_natCast]
theorem idx_parts (i : Int) {n : Nat} (h : 0 < n) : ∃ (t : Int) (j : Nat), j < n ∧ i = (n : Int) * t + j := by
  have h1 := Int.emod_nonneg i (show (n : Int) ≠ 0 by omega)
  have h2 := Int.emod_lt_of_pos i (show (0 : Int) < n by omega)
  have h3 := Int.emod_add_mul_ediv i (n : Int)
  exact ⟨i / (n : Int), (i % (n : Int)).toNat, by omega, by omega⟩
theorem seqE_add (P : Int) {C : List Int} (h0 : 0 < C.length) (i t : Int) : seqE P C (i + (C.length : Int) * t) = seqE P C i + P * t := by
  obtain ⟨s, j, hj, rfl⟩ := idx_parts i h0
  have e : (C.length : Int) * s + (j : Int) + (C.length : Int) * t = (C.length : Int) * (s + t) + j := by rw [Int.mul_add]; omega
  rw [e, seqE_mk P _ hj, seqE_mk P _ hj, Int.mul_add]
  omega
theorem ChL.step (h : ChL P l C) (i : Int) : seqE P C i < seqE P C (i + 1) := by
  obtain ⟨t, j, hj, rfl⟩ := idx_parts i h.n0
  rw [seqE_mk P _ hj]
  by_cases e : j + 1 < C.length
  · have e1 : (C.length : Int) * t + (j : Int) + 1 = (C.length : Int) * t + ((j + 1 : Nat) : Int) := by omega
    rw [e1, seqE_mk P _ e]
    have := h.lt (show j < j + 1 by omega) e
    omega
  · have e1 : (C.length : Int) * t + (j : Int) + 1 = (C.length : Int) * (t + 1) + ((0 : Nat) : Int) := by rw [Int.mul_add]; omega
    rw [e1, seqE_mk P _ h.n0, Int.mul_add]
    have := h.at hj
    have := h.at h.n0
    omega
theorem ChL.mono (h : ChL P l C) (i : Int) : ∀ n : Nat, 0 < n → seqE P C i < seqE P C (i + n) := by
  intro n
  induction n with
  | zero => intro h; omega
  | succ n ih =>
    intro _
    have e : i + ((n + 1 : Nat) : Int) = i + n + 1 := by omega
    have := h.step (i + n)
    rw [e]
    rcases Nat.eq_zero_or_pos n with h0 | h0
    · subst h0; simpa using this
    · have := ih h0; omega
theorem ChL.mono' (h : ChL P l C) {i j : Int} (hij : i < j) : seqE P C i < seqE P C j := by
  have := h.mono i (j - i).toNat (by omega)
  rwa [show i + (((j - i).toNat : Nat) : Int) = j by omega] at this
theorem ChL.lt_iff (h : ChL P l C) {i j : Int} : seqE P C i < seqE P C j ↔ i < j := by
  refine ⟨fun h1 => ?_, h.mono'⟩
  rcases Int.lt_trichotomy i j with h2 | h2 | h2
  · exact h2
  · subst h2; omega
  · have := h.mono' h2; omega
theorem ChL.inj (h : ChL P l C) {i j : Int} (e : seqE P C i = seqE P C j) : i = j := by
  rcases Int.lt_trichotomy i j with h2 | h2 | h2
  · have := h.mono' h2; omega
  · exact h2
  · have := h.mono' h2; omega
theorem ChL.chg (h : ChL P l C) (i : Int) : Chg P l (seqE P C i) := by
  obtain ⟨t, j, hj, rfl⟩ := idx_parts i h.n0
  rw [seqE_mk P _ hj, Chg_per]
  exact (h.at hj).2.2
theorem ChL.surj (h : ChL P l C) {c : Int} (hc : Chg P l c) : ∃ i, seqE P C i = c := by
  have p1 := h.p1
  have h1 := Int.emod_nonneg c (show P ≠ 0 by omega)
  have h2 := Int.emod_lt_of_pos c (show 0 < P by omega)
  have h3 := Int.emod_add_mul_ediv c P
  have h4 : Chg P l (c % P) := by
    have := Chg_per (P := P) (l := l) (c % P) (c / P)
    rw [h3] at this
    exact this.1 hc
  obtain ⟨j, hj, e⟩ := List.getElem_of_mem ((h.mem _).2 ⟨h1, h2, h4⟩)
  refine ⟨(C.length : Int) * (c / P) + j, ?_⟩
  rw [seqE_mk P _ hj]
  have : C.getD j 0 = C[j] := by simp [List.getD_eq_getElem?_getD, hj]
  rw [this, e]
  omega
/-- between two changes -/
theorem ChL.flat (h : ChL P l C) (i : Int) : ∀ n : Nat, seqE P C i + n < seqE P C (i + 1) → (PS P l (seqE P C i + n) ↔ PS P l (seqE P C i)) := by
  intro n
  induction n with
  | zero => intro _; simp
  | succ n ih =>
    intro hn
    have h1 := ih (by omega)
    have h2 : ¬ Chg P l (seqE P C i + ((n + 1 : Nat) : Int)) := fun hc => by
      obtain ⟨j, hj⟩ := h.surj hc
      have a := (h.lt_iff (i := i) (j := j)).1 (by omega)
      have b := (h.lt_iff (i := j) (j := i + 1)).1 (by omega)
      omega
    unfold Chg at h2
    have e : seqE P C i + ((n + 1 : Nat) : Int) - 1 = seqE P C i + n := by omega
    rw [e] at h2
    exact (Classical.not_not.1 h2).symm.trans h1
theorem ChL.flat' (h : ChL P l C) {i x : Int} (h1 : seqE P C i ≤ x) (h2 : x < seqE P C (i + 1)) : PS P l x ↔ PS P l (seqE P C i) := by
  have := h.flat i (x - seqE P C i).toNat (by omega)
  rwa [show seqE P C i + (((x - seqE P C i).toNat : Nat) : Int) = x by omega] at this
theorem ChL.alt (h : ChL P l C) (i : Int) : PS P l (seqE P C (i + 1)) ↔ ¬ PS P l (seqE P C i) := by
  have h1 := h.step i
  have h2 := h.flat' (i := i) (x := seqE P C (i + 1) - 1) (by omega) (by omega)
  have h3 := h.chg (i + 1)
  unfold Chg at h3
  rw [h2] at h3
  by_cases a : PS P l (seqE P C i) <;> by_cases b : PS P l (seqE P C (i + 1)) <;> simp [a, b] at h3 ⊢
theorem ChL.alts (h : ChL P l C) (i : Int) : ∀ n : Nat, (PS P l (seqE P C (i + n)) ↔ PS P l (seqE P C i)) ↔ n % 2 = 0 := by
  intro n
  induction n with
  | zero => simp
  | succ n ih =>
    have e : i + ((n + 1 : Nat) : Int) = i + n + 1 := by omega
    have h1 := h.alt (i + n)
    rw [e, h1]
    have h3 : (n + 1) % 2 = 0 ↔ ¬ n % 2 = 0 := by omega
    rw [h3, ← ih]
    by_cases a : PS P l (seqE P C (i + n)) <;> by_cases b : PS P l (seqE P C i) <;> simp [a, b]
theorem ChL.find (h : ChL P l C) (x : Int) : ∃ i, seqE P C i ≤ x ∧ x < seqE P C (i + 1) := by
  have p1 := h.p1
  obtain ⟨t, ht1, ht2⟩ : ∃ t : Int, C.getD 0 0 + P * t ≤ x ∧ x < C.getD 0 0 + P * t + P := by
    have h1 := Int.emod_nonneg (x - C.getD 0 0) (show P ≠ 0 by omega)
    have h2 := Int.emod_lt_of_pos (x - C.getD 0 0) (show 0 < P by omega)
    have h3 := Int.emod_add_mul_ediv (x - C.getD 0 0) P
    exact ⟨(x - C.getD 0 0) / P, by omega, by omega⟩
  have e0 := seqE_mk P (C := C) t h.n0
  rw [Int.natCast_zero, Int.add_zero] at e0
  have eN := seqE_add P h.n0 ((C.length : Int) * t) 1
  rw [Int.mul_one, Int.mul_one, e0] at eN
  have key : ∀ n : Nat, x < seqE P C ((C.length : Int) * t + n) → ∃ i, seqE P C i ≤ x ∧ x < seqE P C (i + 1) := by
    intro n
    induction n with
    | zero => intro hx; rw [Int.natCast_zero, Int.add_zero, e0] at hx; omega
    | succ n ih =>
      intro hx
      rcases Int.lt_or_le x (seqE P C ((C.length : Int) * t + n)) with h1 | h1
      · exact ih h1
      · exact ⟨_, h1, by rw [show (C.length : Int) * t + (n : Int) + 1 = (C.length : Int) * t + ((n + 1 : Nat) : Int) by omega]; exact hx⟩
  exact key C.length (by rw [eN]; exact ht2)

/-! what the program asks of the changes -/
def wrapP (P y : Int) : Int := if P ≤ y then y - P else y
theorem ChL.inv_of (h : ChL P l C) {q : Int} {k : Nat} (hq1 : 1 ≤ q) (hq2 : q ≤ P) (hk : (C.length : Int) * q = (k : Int) * P) (he : k % 2 = 0) (hc : ∀ i, i < C.length → C.getD ((i + k) % C.length) 0 = wrapP P (C.getD i 0 + q)) : InvQ P l q := by
  have p1 := h.p1
  have n0 := h.n0
  have hkN : k ≤ C.length := by
    rcases Nat.lt_or_ge C.length k with h1 | h1
    · exfalso
      have a1 : ((C.length : Int) + 1) * P ≤ (k : Int) * P := Int.mul_le_mul_of_nonneg_right (by omega) (by omega)
      have a2 : (C.length : Int) * q ≤ (C.length : Int) * P := Int.mul_le_mul_of_nonneg_left hq2 (by omega)
      rw [Int.add_mul] at a1
      omega
    · exact h1
  have hk1 : 1 ≤ k := by
    rcases Nat.eq_zero_or_pos k with h1 | h1
    · exfalso
      subst h1
      have : (1 : Int) * 1 ≤ (C.length : Int) * q := Int.mul_le_mul (by omega) hq1 (by omega) (by omega)
      omega
    · exact h1
  have hs : ∀ i : Int, seqE P C (i + k) = seqE P C i + q := by
    intro i
    obtain ⟨t, j, hj, rfl⟩ := idx_parts i n0
    have h1 := seqE_mk P t hj
    have h2 := Nat.div_add_mod (j + k) C.length
    have hm := Nat.mod_lt (j + k) n0
    have e : (C.length : Int) * t + (j : Int) + (k : Int) = (C.length : Int) * (t + (((j + k) / C.length : Nat) : Int)) + (((j + k) % C.length : Nat) : Int) := by
      have : ((C.length * ((j + k) / C.length) : Nat) : Int) + (((j + k) % C.length : Nat) : Int) = ((j + k : Nat) : Int) := by rw [← Int.natCast_add, h2]
      rw [Int.natCast_mul] at this
      rw [Int.mul_add]
      omega
    have h3 := seqE_mk P (t + (((j + k) / C.length : Nat) : Int)) hm
    rw [← e] at h3
    have h4 := hc j hj
    have a := h.mono ((C.length : Int) * t + j) k (by omega)
    have b : seqE P C ((C.length : Int) * t + (j : Int) + (k : Int)) ≤ seqE P C ((C.length : Int) * t + j) + P := by
      have b1 := seqE_add P n0 ((C.length : Int) * t + j) 1
      rw [Int.mul_one, Int.mul_one] at b1
      rcases Nat.lt_or_ge k C.length with b2 | b2
      · have := h.mono' (i := (C.length : Int) * t + j + k) (j := (C.length : Int) * t + j + C.length) (by omega)
        omega
      · have : k = C.length := by omega
        rw [this, b1]; exact Int.le_refl _
    obtain ⟨z, hz⟩ : ∃ z : Int, P * (t + (((j + k) / C.length : Nat) : Int)) = P * z := ⟨_, rfl⟩
    rw [h3, h1, hz] at a b
    rw [h3, h1, hz, h4]
    rw [h4] at a b
    have hz2 : P * z = P * t + P * (z - t) := by rw [Int.mul_sub]; omega
    obtain ⟨d, hd⟩ : ∃ d, z - t = d := ⟨_, rfl⟩
    rw [hd] at hz2
    unfold wrapP at a b ⊢
    rcases Int.lt_trichotomy d 0 with d0 | d0 | d0
    · have : P * d ≤ P * (-1) := Int.mul_le_mul_of_nonneg_left (by omega) (by omega)
      split at a <;> rename_i hw
      · omega
      · have := h.at hj
        omega
    · subst d0
      rw [Int.mul_zero] at hz2
      split at a <;> rename_i hw
      · have := h.at hj
        omega
      · rw [if_neg hw]; omega
    · by_cases d1 : d = 1
      · subst d1
        rw [Int.mul_one] at hz2
        split at a <;> rename_i hw
        · rw [if_pos hw]; omega
        · rw [if_neg hw] at b; omega
      · have : P * 2 ≤ P * d := Int.mul_le_mul_of_nonneg_left (by omega) (by omega)
        split at b <;> rename_i hw
        · have := h.at hj; omega
        · omega
  intro x
  obtain ⟨i, h1, h2⟩ := h.find x
  have e1 := hs i
  have e2 := hs (i + 1)
  have e3 : i + 1 + (k : Int) = i + k + 1 := by omega
  rw [e3] at e2
  rw [h.flat' h1 h2, h.flat' (i := i + k) (x := x + q) (by omega) (by omega)]
  exact (h.alts i k).2 he
theorem ChL.of_inv (h : ChL P l C) {q : Int} {T : Nat} (hq1 : 1 ≤ q) (hT : q * (T : Int) = P) (hi : InvQ P l q) : ∃ k : Nat, 1 ≤ k ∧ C.length = k * T ∧ (C.length : Int) * q = (k : Int) * P ∧ k % 2 = 0 ∧ ∀ i, i < C.length → C.getD ((i + k) % C.length) 0 = wrapP P (C.getD i 0 + q) := by
  have p1 := h.p1
  have n0 := h.n0
  obtain ⟨r, hr⟩ := h.surj ((hi.chg (seqE P C 0)).2 (h.chg 0))
  have hr1 : 0 < r := h.lt_iff.1 (by omega)
  obtain ⟨k, rfl⟩ : ∃ k : Nat, r = k := ⟨r.toNat, by omega⟩
  have hs : ∀ n : Nat, seqE P C ((k : Int) + n) = seqE P C n + q := by
    intro n
    induction n with
    | zero => simpa using hr
    | succ n ih =>
      have e1 : (k : Int) + ((n + 1 : Nat) : Int) = k + n + 1 := by omega
      have e2 : ((n + 1 : Nat) : Int) = n + 1 := by omega
      have s1 := h.step ((k : Int) + n)
      have s2 := h.step (n : Int)
      rw [e1, e2]
      obtain ⟨j, hj⟩ := h.surj ((hi.chg (seqE P C ((n : Int) + 1))).2 (h.chg _))
      obtain ⟨m, hm⟩ := h.surj (c := seqE P C ((k : Int) + n + 1) - q) ((hi.chg _).1 (by rw [Int.sub_add_cancel]; exact h.chg _))
      have a : (k : Int) + n < j := h.lt_iff.1 (by omega)
      have b : (n : Int) < m := h.lt_iff.1 (by omega)
      have c1 : seqE P C ((k : Int) + n + 1) ≤ seqE P C j := by
        by_cases e : (k : Int) + n + 1 = j
        · rw [e]; exact Int.le_refl _
        · have := h.mono' (i := (k : Int) + n + 1) (j := j) (by omega); omega
      have c2 : seqE P C ((n : Int) + 1) ≤ seqE P C m := by
        by_cases e : (n : Int) + 1 = m
        · rw [e]; exact Int.le_refl _
        · have := h.mono' (i := (n : Int) + 1) (j := m) (by omega); omega
      omega
  have ht : ∀ t : Nat, seqE P C ((t * k : Nat) : Int) = seqE P C 0 + q * t := by
    intro t
    induction t with
    | zero => simp
    | succ t ih =>
      have e : (((t + 1) * k : Nat) : Int) = (k : Int) + ((t * k : Nat) : Int) := by rw [Nat.add_mul]; omega
      rw [e, hs, ih, Int.natCast_add, Int.mul_add]
      omega
  have hN : C.length = k * T := by
    have h1 := ht T
    have h2 := seqE_add P n0 0 1
    rw [Int.mul_one, Int.mul_one, Int.zero_add] at h2
    rw [hT] at h1
    have := h.inj (h1.trans h2.symm)
    rw [Nat.mul_comm]
    omega
  have hNk : (C.length : Int) * q = (k : Int) * P := by
    rw [hN, ← hT, Int.natCast_mul, Int.mul_assoc, Int.mul_comm (T : Int)]
  refine ⟨k, by omega, hN, hNk, ?_, fun i hi' => ?_⟩
  · refine (h.alts 0 k).1 ?_
    rw [Int.zero_add, hr]
    exact hi _
  · have h1 := hs i
    have h2 := Nat.div_add_mod (i + k) C.length
    have hm := Nat.mod_lt (i + k) n0
    have e : (k : Int) + (i : Int) = (C.length : Int) * (((i + k) / C.length : Nat) : Int) + (((i + k) % C.length : Nat) : Int) := by
      have : ((C.length * ((i + k) / C.length) : Nat) : Int) + (((i + k) % C.length : Nat) : Int) = ((i + k : Nat) : Int) := by rw [← Int.natCast_add, h2]
      rw [Int.natCast_mul] at this
      omega
    have h3 := seqE_mk P (((i + k) / C.length : Nat) : Int) hm
    have h4 := seqE_mk P (C := C) 0 hi'
    rw [Int.mul_zero, Int.mul_zero, Int.zero_add, Int.add_zero] at h4
    rw [e, h3, h4] at h1
    have a := h.at hm
    have b := h.at hi'
    have hq2 : q ≤ P := by
      have : q * 1 ≤ q * (T : Int) := Int.mul_le_mul_of_nonneg_left (by
        rcases Nat.eq_zero_or_pos T with t0 | t0
        · subst t0; rw [Int.natCast_zero, Int.mul_zero] at hT; omega
        · omega) (by omega)
      omega
    unfold wrapP
    obtain ⟨z, hz⟩ : ∃ z : Int, (((i + k) / C.length : Nat) : Int) = z := ⟨_, rfl⟩
    rw [hz] at h1
    rcases Int.lt_trichotomy z 0 with d0 | d0 | d0
    · have : P * z ≤ P * (-1) := Int.mul_le_mul_of_nonneg_left (by omega) (by omega)
      omega
    · subst d0
      rw [Int.mul_zero] at h1
      rw [if_neg (by omega)]; omega
    · by_cases d1 : z = 1
      · subst d1
        rw [if_pos (by omega)]; omega
      · have : P * 2 ≤ P * z := Int.mul_le_mul_of_nonneg_left (by omega) (by omega)
        omega
end
end
section
/-- a canonical list from 0 to a period -/
structure Std (P : Int) (l : List Sp) : Prop where
  p1 : 1 ≤ P
  can : Can l
  bd : ∀ s ∈ l, 0 ≤ s.1 ∧ s.2 ≤ P
/-- the least period -/
structure Best (P : Int) (l : List Sp) (d : Int) : Prop where
  d1 : 1 ≤ d
  dvd : d ∣ P
  inv : InvQ P l d
  le : ∀ q, 1 ≤ q → q ∣ P → InvQ P l q → d ≤ q
theorem Best.uniq {P : Int} {l : List Sp} {d d' : Int} (h : Best P l d) (h' : Best P l d') : d = d' := Int.le_antisymm (h.le _ h'.d1 h'.dvd h'.inv) (h'.le _ h.d1 h.dvd h.inv)
/-- a valid set -/
structure PV (P : Int) (l : List Sp) : Prop extends Std P l where
  best : Best P l P
def cutTo (b : Int) (l : List Sp) : List Sp := (l.filter fun s => decide (s.1 < b)).map fun s => (s.1, mi s.2 b)
theorem mi_le (a b : Int) : mi a b ≤ a ∧ mi a b ≤ b ∧ (mi a b = a ∨ mi a b = b) := by
  unfold mi; split <;> omega
theorem cutTo_elem {b : Int} {l : List Sp} {t : Sp} (h : t ∈ cutTo b l) : ∃ s ∈ l, s.1 < b ∧ t = (s.1, mi s.2 b) := by
  unfold cutTo at h
  obtain ⟨s, hs, rfl⟩ := List.mem_map.1 h
  obtain ⟨h1, h2⟩ := List.mem_filter.1 hs
  exact ⟨s, h1, by simpa using h2, rfl⟩
theorem cutTo_can {b : Int} {l : List Sp} (h : Can l) : Can (cutTo b l) := by
  refine ⟨fun t ht => ?_, ?_⟩
  · obtain ⟨s, hs, h1, rfl⟩ := cutTo_elem ht
    have := h.ne s hs
    obtain ⟨_, _, h3⟩ := mi_le s.2 b
    show s.1 < mi s.2 b
    omega
  · unfold cutTo
    rw [List.pairwise_map]
    refine (h.pw.filter _).imp fun {s t} hst => ?_
    have := (mi_le s.2 b).1
    show mi s.2 b < t.1
    omega
theorem cutTo_mem {b : Int} {l : List Sp} {x : Int} : Mem (cutTo b l) x ↔ Mem l x ∧ x < b := by
  constructor
  · rintro ⟨t, ht, h1, h2⟩
    obtain ⟨s, hs, h3, rfl⟩ := cutTo_elem ht
    obtain ⟨a, c, _⟩ := mi_le s.2 b
    change s.1 ≤ x at h1
    change x < mi s.2 b at h2
    exact ⟨⟨s, hs, h1, by omega⟩, by omega⟩
  · rintro ⟨⟨s, hs, h1, h2⟩, h3⟩
    refine ⟨(s.1, mi s.2 b), ?_, h1, ?_⟩
    · unfold cutTo
      exact List.mem_map.2 ⟨s, List.mem_filter.2 ⟨hs, by simp; omega⟩, rfl⟩
    · obtain ⟨_, _, h4⟩ := mi_le s.2 b
      show x < mi s.2 b
      omega
theorem cutTo_bd {b : Int} {l : List Sp} (h : ∀ s ∈ l, 0 ≤ s.1) : ∀ s ∈ cutTo b l, 0 ≤ s.1 ∧ s.2 ≤ b := fun t ht => by
  obtain ⟨s, hs, h1, rfl⟩ := cutTo_elem ht
  exact ⟨h s hs, (mi_le s.2 b).2.1⟩
theorem Std.mem {P : Int} {l : List Sp} (h : Std P l) {x : Int} (hx : Mem l x) : 0 ≤ x ∧ x < P := by
  obtain ⟨s, hs, h1, h2⟩ := hx
  have := h.bd s hs
  omega
theorem Std.mem_PS {P : Int} {l : List Sp} (h : Std P l) {x : Int} : Mem l x ↔ 0 ≤ x ∧ x < P ∧ PS P l x := by
  unfold PS
  constructor
  · intro hx
    obtain ⟨h1, h2⟩ := h.mem hx
    exact ⟨h1, h2, by rwa [Int.emod_eq_of_lt h1 h2]⟩
  · rintro ⟨h1, h2, h3⟩
    rwa [Int.emod_eq_of_lt h1 h2] at h3
theorem InvQ.mulZ {P : Int} {l : List Sp} {q : Int} (h : InvQ P l q) (x t : Int) : PS P l (x + q * t) ↔ PS P l x := by
  rcases Int.le_total 0 t with ht | ht
  · obtain ⟨n, rfl⟩ := Int.eq_ofNat_of_zero_le ht
    exact h.mul n x
  · obtain ⟨n, hn⟩ := Int.eq_ofNat_of_zero_le (show 0 ≤ -t by omega)
    have h1 := h.mul n (x + q * t)
    have e : x + q * t + q * (n : Int) = x := by
      have h2 := congrArg (fun z => q * z) hn
      simp only [Int.mul_neg] at h2
      omega
    rw [e] at h1
    exact h1.symm
theorem PS_cut {P : Int} {l : List Sp} {d : Int} (h : Std P l) (hd : 1 ≤ d) (hdv : d ∣ P) (hi : InvQ P l d) (x : Int) : PS d (cutTo d l) x ↔ PS P l x := by
  have h1 := Int.emod_nonneg x (show d ≠ 0 by omega)
  have h2 := Int.emod_lt_of_pos x (show 0 < d by omega)
  have h3 := Int.emod_add_mul_ediv x d
  have h4 : d ≤ P := Int.le_of_dvd (by have := h.p1; omega) hdv
  have h5 := hi.mulZ (x % d) (x / d)
  rw [h3] at h5
  rw [h5]
  unfold PS
  rw [cutTo_mem, Int.emod_eq_of_lt h1 (show x % d < P by omega)]
  exact ⟨fun h => h.1, fun h => ⟨h, h2⟩⟩
theorem norm_PV {P : Int} {l : List Sp} {d : Int} (h : Std P l) (hb : Best P l d) : PV d (cutTo d l) := by
  refine ⟨⟨hb.d1, cutTo_can h.can, cutTo_bd fun s hs => (h.bd s hs).1⟩, ⟨hb.d1, Int.dvd_refl d, InvQ.self _ _, fun q h1 h2 h3 => hb.le q h1 (Int.dvd_trans h2 hb.dvd) fun x => ?_⟩⟩
  rw [← PS_cut h hb.d1 hb.dvd hb.inv, ← PS_cut h hb.d1 hb.dvd hb.inv]
  exact h3 x
theorem norm_PS {P : Int} {l : List Sp} {d : Int} (h : Std P l) (hb : Best P l d) (x : Int) : PS d (cutTo d l) x ↔ PS P l x := PS_cut h hb.d1 hb.dvd hb.inv x

theorem inv_gcd {S : Int → Prop} : ∀ a b : Nat, (∀ x, S (x + (a : Int)) ↔ S x) → (∀ x, S (x + (b : Int)) ↔ S x) → ∀ x, S (x + ((Nat.gcd a b : Nat) : Int)) ↔ S x := by
  intro a b
  induction a, b using Nat.gcd.induction with
  | H0 n => intro _ h; rw [Nat.gcd_zero_left]; exact h
  | H1 m n hm ih =>
    intro h1 h2
    rw [Nat.gcd_rec]
    refine ih (fun x => ?_) h1
    have h3 : ∀ (t : Nat) x, S (x + (m : Int) * t) ↔ S x := by
      intro t
      induction t with
      | zero => intro x; simp
      | succ t iht =>
        intro x
        have e : x + (m : Int) * ((t + 1 : Nat) : Int) = x + (m : Int) * t + m := by rw [Int.natCast_add, Int.mul_add]; omega
        rw [e, h1, iht]
    have e : x + (n : Int) = x + ((n % m : Nat) : Int) + (m : Int) * ((n / m : Nat) : Int) := by
      have := Nat.mod_add_div n m
      have h4 : ((n % m + m * (n / m) : Nat) : Int) = (n : Int) := by rw [this]
      rw [Int.natCast_add, Int.natCast_mul] at h4
      omega
    rw [← h3 (n / m), ← e, h2]
theorem PV.period {P P' : Int} {l : List Sp} (h : PV P l) (hP' : 1 ≤ P') (he : InvQ P l P') : P ∣ P' := by
  obtain ⟨p, rfl⟩ := Int.eq_ofNat_of_zero_le (show 0 ≤ P by have := h.p1; omega)
  obtain ⟨p', rfl⟩ := Int.eq_ofNat_of_zero_le (show 0 ≤ P' by omega)
  have h1 : InvQ (p : Int) l ((Nat.gcd p p' : Nat) : Int) := inv_gcd p p' (InvQ.self _ _) he
  have h2 : Nat.gcd p p' ∣ p := Nat.gcd_dvd_left _ _
  have hp := h.p1
  have h3 : 0 < Nat.gcd p p' := Nat.gcd_pos_of_pos_left _ (by omega)
  have h4 := h.best.le _ (by omega) (Int.natCast_dvd_natCast.2 h2) h1
  have h5 : Nat.gcd p p' ≤ p := Nat.le_of_dvd (by omega) h2
  have h6 : Nat.gcd p p' = p := by omega
  refine Int.natCast_dvd_natCast.2 ?_
  have := Nat.gcd_dvd_right p p'
  rwa [h6] at this
/-- a set has one form -/
theorem PV.uniq {P P' : Int} {l l' : List Sp} (h : PV P l) (h' : PV P' l') (he : ∀ x, PS P l x ↔ PS P' l' x) : P = P' ∧ l = l' := by
  have i1 : InvQ P l P' := fun x => by rw [he, he]; exact InvQ.self _ _ x
  have i2 : InvQ P' l' P := fun x => by rw [← he, ← he]; exact InvQ.self _ _ x
  have d1 := PV.period h h'.p1 i1
  have d2 := PV.period h' h.p1 i2
  have e : P = P' := Int.le_antisymm (Int.le_of_dvd (by have := h'.p1; omega) d1) (Int.le_of_dvd (by have := h.p1; omega) d2)
  subst e
  exact ⟨rfl, can_unique h.can h'.can fun x => by rw [h.mem_PS, h'.mem_PS, he]⟩
end
section
def R2 (rule : Bool → Bool → Bool) (a b : List Sp) (x : Int) : Bool := rule (memB a x) (memB b x)
def oddB (n : Nat) : Bool := n % 2 == 1
theorem oddB_mem {l : List Sp} (h : Can l) {n : Nat} {x : Int} (hn : n ≤ 2 * l.length) (h1 : n = 0 ∨ endL l (n - 1) ≤ x) (h2 : n < 2 * l.length → x < endL l n) : memB l x = oddB n := by
  have := endL_mem h hn h1 (by rcases Nat.lt_or_ge n (2 * l.length) with h | h; exact .inr (h2 h); exact .inl (by omega))
  unfold oddB
  rcases Nat.mod_two_eq_zero_or_one n with e | e
  · rw [e, memB_false.2 (by rw [this]; omega)]; rfl
  · rw [e, memB_iff.2 (this.2 e)]; rfl
structure CombI (rule : Bool → Bool → Bool) (a b : List Sp) (i k : Nat) (out : List Sp) : Prop where
  hi : i ≤ 2 * a.length
  hk : k ≤ 2 * b.length
  st : ∃ c, (i = 0 ∨ endL a (i - 1) ≤ c) ∧ (i < 2 * a.length → c < endL a i) ∧ (k = 0 ∨ endL b (k - 1) ≤ c) ∧ (k < 2 * b.length → c < endL b k) ∧
    (rule (oddB i) (oddB k) = false → Can out ∧ (∀ t ∈ out, t.2 ≤ c) ∧ ∀ x, x ≤ c → (Mem out x ↔ R2 rule a b x = true)) ∧
    (rule (oddB i) (oddB k) = true → ∃ o f, (∀ z, out.getLast? = some z → out = o ++ [(f, z.2)]) ∧ out ≠ [] ∧ Can o ∧ (∀ t ∈ o, t.2 < f) ∧ f ≤ c ∧ ∀ x, x ≤ c → (R2 rule a b x = true ↔ Mem o x ∨ f ≤ x))
/-- the number of ends behind the next cut -/
def nxI (l : List Sp) (n : Nat) (t : Int) : Nat := if n < 2 * l.length ∧ endL l n = t then n + 1 else n
theorem nxI_pre {l : List Sp} (h : Can l) {n : Nat} {c t : Int} (hn : n ≤ 2 * l.length) (h1 : n = 0 ∨ endL l (n - 1) ≤ c) (hct : c < t) (ht : n < 2 * l.length → t ≤ endL l n) :
    nxI l n t ≤ 2 * l.length ∧ (nxI l n t = 0 ∨ endL l (nxI l n t - 1) ≤ t) ∧ (nxI l n t < 2 * l.length → t < endL l (nxI l n t)) := by
  unfold nxI
  split
  · rename_i e
    refine ⟨by omega, .inr (by rw [Nat.add_sub_cancel]; omega), fun h2 => ?_⟩
    have := endL_up h h2
    omega
  · rename_i e
    refine ⟨hn, h1.imp id (by omega), fun h2 => ?_⟩
    have := ht h2
    by_cases e2 : endL l n = t
    · exact absurd ⟨h2, e2⟩ e
    · omega
theorem CombI.init {rule : Bool → Bool → Bool} {a b : List Sp} (h0 : rule false false = false) (ha : Can a) (hb : Can b) : CombI rule a b 0 0 [] := by
  refine ⟨by omega, by omega, mi (endL a 0) (endL b 0) - 1, .inl rfl, fun _ => ?_, .inl rfl, fun _ => ?_, fun _ => ⟨Can.nil, fun t ht => (by cases ht), fun x hx => ?_⟩, fun h => ?_⟩
  · unfold mi; split <;> omega
  · unfold mi; split <;> omega
  · have hx' : x < endL a 0 ∧ x < endL b 0 := by unfold mi at hx; split at hx <;> omega
    have h1 := oddB_mem ha (n := 0) (x := x) (by omega) (.inl rfl) fun _ => hx'.1
    have h2 := oddB_mem hb (n := 0) (x := x) (by omega) (.inl rfl) fun _ => hx'.2
    unfold R2
    rw [h1, h2]
    refine ⟨fun h => absurd h (mem_nil x), fun h => ?_⟩
    rw [show rule (oddB 0) (oddB 0) = false from h0] at h
    cases h
  · rw [show rule (oddB 0) (oddB 0) = false from h0] at h
    cases h
theorem CombI.step {rule : Bool → Bool → Bool} {a b : List Sp} (ha : Can a) (hb : Can b) {i k : Nat} {out : List Sp} (h : CombI rule a b i k out) {t : Int}
    (ht : i < 2 * a.length ∧ t = endL a i ∨ k < 2 * b.length ∧ t = endL b k) (hta : i < 2 * a.length → t ≤ endL a i) (htb : k < 2 * b.length → t ≤ endL b k) :
    ∃ out', CombI rule a b (nxI a i t) (nxI b k t) out' ∧ i + k < nxI a i t + nxI b k t ∧
      out' = (if rule (oddB i) (oddB k) = false ∧ rule (oddB (nxI a i t)) (oddB (nxI b k t)) = true then out ++ [(t, 0)]
        else if rule (oddB i) (oddB k) = true ∧ rule (oddB (nxI a i t)) (oddB (nxI b k t)) = false then out.set (out.length - 1) ((out.getD (out.length - 1) (0, 0)).1, t) else out) ∧
      (rule (oddB i) (oddB k) = true → 0 < out.length) := by
  obtain ⟨hi, hk, c, a1, a2, b1, b2, cF, cT⟩ := h
  have hct : c < t := by rcases ht with ⟨h1, h2⟩ | ⟨h1, h2⟩; have := a2 h1; omega; have := b2 h1; omega
  obtain ⟨p1, p2, p3⟩ := nxI_pre ha hi a1 hct hta
  obtain ⟨q1, q2, q3⟩ := nxI_pre hb hk b1 hct htb
  have hlt : i + k < nxI a i t + nxI b k t := by
    have e1 : i ≤ nxI a i t := by unfold nxI; split <;> omega
    have e2 : k ≤ nxI b k t := by unfold nxI; split <;> omega
    rcases ht with ⟨h1, h2⟩ | ⟨h1, h2⟩
    · have : nxI a i t = i + 1 := if_pos ⟨h1, h2.symm⟩
      omega
    · have : nxI b k t = k + 1 := if_pos ⟨h1, h2.symm⟩
      omega
  have hmid : ∀ x, c ≤ x → x < t → R2 rule a b x = rule (oddB i) (oddB k) := fun x h1 h2 => by
    unfold R2
    rw [oddB_mem ha hi (a1.imp id (by omega)) (fun h => by have := hta h; omega), oddB_mem hb hk (b1.imp id (by omega)) (fun h => by have := htb h; omega)]
  have hat : R2 rule a b t = rule (oddB (nxI a i t)) (oddB (nxI b k t)) := by
    unfold R2
    rw [oddB_mem ha p1 p2 p3, oddB_mem hb q1 q2 q3]
  obtain ⟨i', hi'⟩ : ∃ i', nxI a i t = i' := ⟨_, rfl⟩
  obtain ⟨k', hk'⟩ : ∃ k', nxI b k t = k' := ⟨_, rfl⟩
  rw [hi'] at p1 p2 p3 hlt hat ⊢
  rw [hk'] at q1 q2 q3 hlt hat ⊢
  cases hB : rule (oddB i) (oddB k) with
  | false =>
    obtain ⟨u1, u2, u3⟩ := cF hB
    rw [hB] at hmid
    cases hA : rule (oddB i') (oddB k') with
    | true =>
      rw [hA] at hat
      refine ⟨_, ⟨p1, q1, t, p2, p3, q2, q3, (fun h => by rw [hA] at h; cases h), fun _ => ⟨out, t, fun z hz => ?_, by simp, u1, fun s hs => by have := u2 s hs; omega, Int.le_refl _, fun x hx => ?_⟩⟩, hlt, rfl, fun h => by cases h⟩
      · simp at hz ⊢; rw [← hz]
      · by_cases e : x ≤ c
        · rw [← u3 x e]; exact ⟨.inl, fun h => h.elim id (by omega)⟩
        · by_cases e2 : x < t
          · rw [hmid x (by omega) e2]
            refine ⟨(fun h => by cases h), fun h => ?_⟩
            rcases h with ⟨s, hs, h1, h2⟩ | h
            · have := u2 s hs; omega
            · omega
          · have : x = t := by omega
            subst this
            rw [hat]
            exact ⟨fun _ => .inr (Int.le_refl _), fun _ => rfl⟩
    | false =>
      rw [hA] at hat
      refine ⟨_, ⟨p1, q1, t, p2, p3, q2, q3, fun _ => ⟨u1, fun s hs => by have := u2 s hs; omega, fun x hx => ?_⟩, fun h => by rw [hA] at h; cases h⟩, hlt, by simp, fun h => by cases h⟩
      by_cases e : x ≤ c
      · exact u3 x e
      · have : R2 rule a b x = false := by
          by_cases e2 : x < t
          · exact hmid x (by omega) e2
          · have : x = t := by omega
            subst this; exact hat
        rw [this]
        refine ⟨?_, (fun h => by cases h)⟩
        rintro ⟨s, hs, h1, h2⟩
        have := u2 s hs; omega
  | true =>
    obtain ⟨o, f, v1, v2, v3, v4, v5, v6⟩ := cT hB
    rw [hB] at hmid
    have hl : 0 < out.length := List.length_pos_iff.2 v2
    obtain ⟨z, hz⟩ : ∃ z, out.getLast? = some z := by
      cases hz : out.getLast? with
      | none => rw [List.getLast?_eq_none_iff] at hz; exact absurd hz v2
      | some z => exact ⟨z, rfl⟩
    have ho := v1 z hz
    have hset : out.set (out.length - 1) ((out.getD (out.length - 1) (0, 0)).1, t) = o ++ [(f, t)] := by
      rw [ho]
      simp
    cases hA : rule (oddB i') (oddB k') with
    | false =>
      rw [hA] at hat
      refine ⟨_, ⟨p1, q1, t, p2, p3, q2, q3, fun _ => ?_, fun h => by rw [hA] at h; cases h⟩, hlt, rfl, fun _ => hl⟩
      simp only [Bool.true_eq_false, false_and, if_false, true_and, if_true]
      rw [hset]
      refine ⟨v3.snoc (by show f < t; omega) v4, fun s hs => ?_, fun x hx => ?_⟩
      · rcases List.mem_append.1 hs with hs | hs
        · have := v4 s hs; omega
        · rw [List.mem_singleton.1 hs]; exact Int.le_refl _
      · rw [mem_app, mem_one]
        by_cases e : x ≤ c
        · rw [v6 x e]
          exact ⟨fun h => h.imp id fun h => h.1, fun h => h.imp id fun h => ⟨h, by show x < t; omega⟩⟩
        · by_cases e2 : x < t
          · rw [hmid x (by omega) e2]
            exact ⟨fun _ => rfl, fun _ => .inr ⟨by show f ≤ x; omega, e2⟩⟩
          · have : x = t := by omega
            subst this
            rw [hat]
            refine ⟨fun h => ?_, (fun h => by cases h)⟩
            rcases h with ⟨s, hs, h1, h2⟩ | ⟨_, h⟩
            · have := v4 s hs; omega
            · exact absurd h (Int.lt_irrefl _)
    | true =>
      rw [hA] at hat
      refine ⟨_, ⟨p1, q1, t, p2, p3, q2, q3, (fun h => by rw [hA] at h; cases h), fun _ => ⟨o, f, v1, v2, v3, v4, by omega, fun x hx => ?_⟩⟩, hlt, by simp, fun _ => hl⟩
      by_cases e : x ≤ c
      · exact v6 x e
      · have : R2 rule a b x = true := by
          by_cases e2 : x < t
          · exact hmid x (by omega) e2
          · have : x = t := by omega
            subst this; exact hat
        rw [this]
        exact ⟨fun _ => .inr (by omega), fun _ => rfl⟩
theorem CombI.done {rule : Bool → Bool → Bool} {a b : List Sp} (ha : Can a) (hb : Can b) (h0 : rule false false = false) {out : List Sp} (h : CombI rule a b (2 * a.length) (2 * b.length) out) :
    Can out ∧ ∀ x, Mem out x ↔ R2 rule a b x = true := by
  obtain ⟨hi, hk, c, a1, a2, b1, b2, cF, cT⟩ := h
  have e1 : oddB (2 * a.length) = false := by unfold oddB; rw [show 2 * a.length % 2 = 0 by omega]; rfl
  have e2 : oddB (2 * b.length) = false := by unfold oddB; rw [show 2 * b.length % 2 = 0 by omega]; rfl
  obtain ⟨u1, u2, u3⟩ := cF (by rw [e1, e2]; exact h0)
  refine ⟨u1, fun x => ?_⟩
  by_cases e : x ≤ c
  · exact u3 x e
  · have : R2 rule a b x = false := by
      unfold R2
      rw [oddB_mem ha (Nat.le_refl _) (a1.imp id (by omega)) (by omega), oddB_mem hb (Nat.le_refl _) (b1.imp id (by omega)) (by omega), e1, e2]; exact h0
    rw [this]
    refine ⟨?_, (fun h => by cases h)⟩
    rintro ⟨s, hs, h1, h2⟩
    have := u2 s hs; omega
end
section
/-- x is the remainder of a number of a span -/
def InF (P : Int) (s : Sp) (x : Int) : Prop := ∃ y, s.1 ≤ y ∧ y < s.2 ∧ y % P = x
def foldP (P : Int) (s : Sp) : List Sp := (s.1 % P, mi (s.1 % P + s.2 - s.1) P) :: if P < s.1 % P + s.2 - s.1 then [(0, s.1 % P + s.2 - s.1 - P)] else []
theorem foldP_mem {P : Int} {s : Sp} (hP : 1 ≤ P) (hl : s.2 - s.1 < P) {x : Int} : Mem (foldP P s) x ↔ InF P s x := by
  have h1 := Int.emod_nonneg s.1 (show P ≠ 0 by omega)
  have h2 := Int.emod_lt_of_pos s.1 (show 0 < P by omega)
  have h3 := Int.emod_add_mul_ediv s.1 P
  obtain ⟨r, hr⟩ : ∃ r, s.1 % P = r := ⟨_, rfl⟩
  obtain ⟨q, hq⟩ : ∃ q, s.1 / P = q := ⟨_, rfl⟩
  rw [hr, hq] at h3
  rw [hr] at h1 h2
  have key : InF P s x ↔ 0 ≤ x ∧ x < P ∧ (r ≤ x ∧ x < r + s.2 - s.1 ∨ r ≤ x + P ∧ x + P < r + s.2 - s.1) := by
    unfold InF
    constructor
    · rintro ⟨y, a, b, rfl⟩
      have c1 := Int.emod_nonneg y (show P ≠ 0 by omega)
      have c2 := Int.emod_lt_of_pos y (show 0 < P by omega)
      have c3 := Int.emod_add_mul_ediv y P
      refine ⟨c1, c2, ?_⟩
      obtain ⟨t, ht⟩ : ∃ t, y / P - q = t := ⟨_, rfl⟩
      have c4 : P * (y / P) = P * q + P * t := by rw [← ht, Int.mul_sub]; omega
      rcases Int.lt_trichotomy t 0 with d | d | d
      · have : P * t ≤ P * (-1) := Int.mul_le_mul_of_nonneg_left (by omega) (by omega)
        omega
      · subst d; rw [Int.mul_zero] at c4
        exact .inl (by omega)
      · by_cases e : t = 1
        · subst e; rw [Int.mul_one] at c4
          exact .inr (by omega)
        · have : P * 2 ≤ P * t := Int.mul_le_mul_of_nonneg_left (by omega) (by omega)
          omega
    · rintro ⟨a, b, h | h⟩
      · refine ⟨x + P * q, by omega, by omega, ?_⟩
        rw [Int.add_mul_emod_self_left, Int.emod_eq_of_lt a b]
      · refine ⟨x + P * (q + 1), by rw [Int.mul_add]; omega, by rw [Int.mul_add]; omega, ?_⟩
        rw [Int.add_mul_emod_self_left, Int.emod_eq_of_lt a b]
  rw [key]
  unfold foldP
  rw [hr, mem_cons]
  simp only []
  have hm := mi_le (r + s.2 - s.1) P
  split
  · rw [mem_one]
    constructor
    · rintro (h | ⟨a, b⟩)
      · exact ⟨by omega, by omega, .inl (by omega)⟩
      · change 0 ≤ x at a
        change x < r + s.2 - s.1 - P at b
        exact ⟨a, by omega, .inr (by omega)⟩
    · rintro ⟨a, b, h | h⟩
      · exact .inl (by omega)
      · exact .inr ⟨a, by show x < r + s.2 - s.1 - P; omega⟩
  · constructor
    · rintro (h | h)
      · exact ⟨by omega, by omega, .inl (by omega)⟩
      · exact absurd h (mem_nil x)
    · rintro ⟨a, b, h | h⟩
      · exact .inl (by omega)
      · omega
theorem InF_full {P : Int} {s : Sp} (hP : 1 ≤ P) (hl : P ≤ s.2 - s.1) {x : Int} : InF P s x ↔ 0 ≤ x ∧ x < P := by
  constructor
  · rintro ⟨y, _, _, rfl⟩
    exact ⟨Int.emod_nonneg y (by omega), Int.emod_lt_of_pos y (by omega)⟩
  · rintro ⟨h1, h2⟩
    have a1 := Int.emod_nonneg (x - s.1) (show P ≠ 0 by omega)
    have a2 := Int.emod_lt_of_pos (x - s.1) (show 0 < P by omega)
    have a3 := Int.emod_add_mul_ediv (x - s.1) P
    refine ⟨s.1 + (x - s.1) % P, by omega, by omega, ?_⟩
    have e : s.1 + (x - s.1) % P = x + P * (-((x - s.1) / P)) := by rw [Int.mul_neg]; omega
    rw [e, Int.add_mul_emod_self_left, Int.emod_eq_of_lt h1 h2]
theorem foldP_ne {P : Int} {s : Sp} (hP : 1 ≤ P) (hs : s.1 < s.2) : ∀ t ∈ foldP P s, t.1 < t.2 ∧ 0 ≤ t.1 ∧ t.1 ≤ P := by
  have h1 := Int.emod_nonneg s.1 (show P ≠ 0 by omega)
  have h2 := Int.emod_lt_of_pos s.1 (show 0 < P by omega)
  intro t ht
  unfold foldP at ht
  rcases List.mem_cons.1 ht with rfl | ht
  · have hm := mi_le (s.1 % P + s.2 - s.1) P
    exact ⟨by show s.1 % P < mi _ _; omega, h1, by show s.1 % P ≤ P; omega⟩
  · split at ht
    · rw [List.mem_singleton.1 ht]
      exact ⟨by show (0 : Int) < _ - _; omega, by show (0 : Int) ≤ 0; omega, by show (0 : Int) ≤ P; omega⟩
    · cases ht
/-- a set moved -/
def MemF (P : Int) (l : List Sp) (x : Int) : Prop := ∃ s ∈ l, InF P s x
theorem MemF_mem {P : Int} {l : List Sp} (hP : 1 ≤ P) (hl : ∀ s ∈ l, s.2 - s.1 < P) {x : Int} : Mem (l.flatMap (foldP P)) x ↔ MemF P l x := by
  unfold MemF
  constructor
  · rintro ⟨t, ht, h⟩
    obtain ⟨s, hs, ht⟩ := List.mem_flatMap.1 ht
    exact ⟨s, hs, (foldP_mem hP (hl s hs)).1 ⟨t, ht, h⟩⟩
  · rintro ⟨s, hs, h⟩
    obtain ⟨t, ht, h⟩ := (foldP_mem hP (hl s hs)).2 h
    exact ⟨t, List.mem_flatMap.2 ⟨s, hs, ht⟩, h⟩
/-- every list from 0 to a period, moved by n: the remainders -/
theorem MemF_move {P : Int} {l : List Sp} (h : Std P l) (n : Int) {x : Int} (h1 : 0 ≤ x) (h2 : x < P) : MemF P (l.map fun s => (s.1 + n, s.2 + n)) x ↔ PS P l (x - n) := by
  unfold MemF PS
  constructor
  · rintro ⟨t, ht, y, a, b, e⟩
    obtain ⟨s, hs, rfl⟩ := List.mem_map.1 ht
    change s.1 + n ≤ y at a
    change y < s.2 + n at b
    have := h.bd s hs
    have e2 : (x - n) % P = y - n := by
      have e3 : (x - n) % P = (y - n) % P := by rw [← e, Int.emod_sub_emod]
      rw [e3, Int.emod_eq_of_lt (by omega) (by omega)]
    rw [e2]
    exact ⟨s, hs, by omega, by omega⟩
  · rintro ⟨s, hs, a, b⟩
    refine ⟨_, List.mem_map.2 ⟨s, hs, rfl⟩, (x - n) % P + n, by show s.1 + n ≤ _; omega, by show _ < s.2 + n; omega, ?_⟩
    rw [Int.emod_add_emod, Int.sub_add_cancel, Int.emod_eq_of_lt h1 h2]
end
section
def rk1 (s : Sp) (x : Int) : Int := ma 0 (mi s.2 x - s.1)
def rk : List Sp → Int → Int
  | [], _ => 0
  | s :: l, x => rk1 s x + rk l x
def bI (b : Bool) : Int := if b then 1 else 0
theorem bI_t : bI true = 1 := rfl
theorem bI_f : bI false = 0 := rfl
theorem rk_step {l : List Sp} (h : Can l) (x : Int) : rk l (x + 1) - rk l x = bI (memB l x) := by
  induction l with
  | nil => rfl
  | cons s l ih =>
    have ih := ih h.tail
    have hs := h.ne s (by simp)
    have e : memB (s :: l) x = ((decide (s.1 ≤ x) && decide (x < s.2)) || memB l x) := by simp [memB]
    unfold rk
    rw [e]
    have h1 : rk1 s (x + 1) - rk1 s x = bI (decide (s.1 ≤ x) && decide (x < s.2)) := by
      by_cases a : s.1 ≤ x
      · by_cases b : x < s.2
        · simp only [decide_eq_true a, decide_eq_true b, Bool.and_self, bI_t]
          unfold rk1 ma mi
          repeat' split
          all_goals omega
        · simp only [decide_eq_false b, Bool.and_false, bI_f]
          unfold rk1 ma mi
          repeat' split
          all_goals omega
      · simp only [decide_eq_false a, Bool.false_and, bI_f]
        unfold rk1 ma mi
        repeat' split
        all_goals omega
    have h2 : bI ((decide (s.1 ≤ x) && decide (x < s.2)) || memB l x) = bI (decide (s.1 ≤ x) && decide (x < s.2)) + bI (memB l x) := by
      cases hm : memB l x with
      | false => cases (decide (s.1 ≤ x) && decide (x < s.2)) <;> rfl
      | true =>
        have := h.cons_lt (memB_iff.1 hm)
        have : decide (x < s.2) = false := decide_eq_false (by omega)
        rw [this, Bool.and_false]
        rfl
    rw [h2]
    omega
theorem rk_low {l : List Sp} {x : Int} (h : ∀ s ∈ l, x ≤ s.1) (hn : ∀ s ∈ l, s.1 < s.2) : rk l x = 0 := by
  induction l with
  | nil => rfl
  | cons s l ih =>
    unfold rk
    rw [ih (fun t ht => h t (by simp [ht])) (fun t ht => hn t (by simp [ht]))]
    have := h s (by simp)
    have := hn s (by simp)
    unfold rk1 ma mi
    repeat' split
    all_goals omega
def meas : List Sp → Int
  | [] => 0
  | s :: l => (s.2 - s.1) + meas l
theorem rk_high {l : List Sp} {x : Int} (h : ∀ s ∈ l, s.2 ≤ x) (hn : ∀ s ∈ l, s.1 < s.2) : rk l x = meas l := by
  induction l with
  | nil => rfl
  | cons s l ih =>
    unfold rk meas
    rw [ih (fun t ht => h t (by simp [ht])) (fun t ht => hn t (by simp [ht]))]
    have := h s (by simp)
    have := hn s (by simp)
    unfold rk1 ma mi
    repeat' split
    all_goals omega
/-- two counts with the same steps -/
theorem step_same {F G : Int → Int} {a : Int} : ∀ n : Nat, (∀ x, a ≤ x → x < a + n → F (x + 1) - F x = G (x + 1) - G x) → F (a + n) - F a = G (a + n) - G a := by
  intro n
  induction n with
  | zero => intro _; simp
  | succ n ih =>
    intro h
    have h1 := ih fun x a b => h x a (by omega)
    have h2 := h (a + n) (by omega) (by omega)
    have e : a + ((n + 1 : Nat) : Int) = a + n + 1 := by omega
    rw [e]
    omega
theorem step_eq {F G : Int → Int} {a b : Int} (hab : a ≤ b) (h : ∀ x, a ≤ x → x < b → F (x + 1) - F x = G (x + 1) - G x) : F b - F a = G b - G a := by
  obtain ⟨n, hn⟩ := Int.eq_ofNat_of_zero_le (show 0 ≤ b - a by omega)
  have e : b = a + n := by omega
  subst e
  exact step_same n h
def psB (P : Int) (l : List Sp) (x : Int) : Bool := memB l (x % P)
theorem psB_iff {P : Int} {l : List Sp} {x : Int} : psB P l x = true ↔ PS P l x := memB_iff
/-- the numbers from 0 to x - 1, less those from x to -1 -/
def bel (P : Int) (l : List Sp) (x : Int) : Int := x / P * rk l P + rk l (x % P)
theorem Std.rk0 {P : Int} {l : List Sp} (h : Std P l) : rk l 0 = 0 := rk_low (fun s hs => (h.bd s hs).1) h.can.ne
theorem Std.rkP {P : Int} {l : List Sp} (h : Std P l) : rk l P = meas l := rk_high (fun s hs => (h.bd s hs).2) h.can.ne
theorem bel_step {P : Int} {l : List Sp} (h : Std P l) (x : Int) : bel P l (x + 1) - bel P l x = bI (psB P l x) := by
  have hp := h.p1
  have h1 := Int.emod_nonneg x (show P ≠ 0 by omega)
  have h2 := Int.emod_lt_of_pos x (show 0 < P by omega)
  have h3 := Int.emod_add_mul_ediv x P
  unfold bel psB
  obtain ⟨r, hr⟩ : ∃ r, x % P = r := ⟨_, rfl⟩
  obtain ⟨q, hq⟩ : ∃ q, x / P = q := ⟨_, rfl⟩
  rw [hr, hq] at h3 ⊢
  rw [hr] at h1 h2
  have h4 := rk_step h.can r
  by_cases e : r + 1 < P
  · have e1 : x + 1 = r + 1 + P * q := by omega
    have e2 : (x + 1) % P = r + 1 := by rw [e1, Int.add_mul_emod_self_left, Int.emod_eq_of_lt (by omega) e]
    have e3 : (x + 1) / P = q := by rw [e1, Int.add_mul_ediv_left _ _ (by omega), Int.ediv_eq_zero_of_lt (by omega) e]; omega
    rw [e2, e3]
    omega
  · have e1 : x + 1 = 0 + P * (q + 1) := by rw [Int.mul_add]; omega
    have e2 : (x + 1) % P = 0 := by rw [e1, Int.add_mul_emod_self_left]; simp
    have e3 : (x + 1) / P = q + 1 := by rw [e1, Int.add_mul_ediv_left _ _ (by omega)]; simp
    have e4 : r + 1 = P := by omega
    rw [e4] at h4
    rw [e2, e3, h.rk0, Int.add_mul]
    omega
theorem bel_zero {P : Int} {l : List Sp} (h : Std P l) : bel P l 0 = 0 := by
  unfold bel
  rw [Int.zero_ediv, Int.zero_emod, h.rk0]; omega
theorem bel_period {P : Int} {l : List Sp} (h : Std P l) (x : Int) : bel P l (x + P) = bel P l x + meas l := by
  have hp := h.p1
  unfold bel
  have e1 : (x + P) % P = x % P := by simp
  have e2 : (x + P) / P = x / P + 1 := by rw [Int.add_ediv_of_dvd_right (Int.dvd_refl P), Int.ediv_self (by omega)]
  rw [e1, e2, Int.add_mul, h.rkP]
  omega
theorem meas_bd {P : Int} {l : List Sp} (h : Std P l) : 0 ≤ meas l ∧ meas l ≤ P := by
  have h0 : ∀ n : Nat, 0 ≤ rk l n ∧ rk l n ≤ n := by
    intro n
    induction n with
    | zero => rw [show ((0 : Nat) : Int) = 0 from rfl, h.rk0]; omega
    | succ n ih =>
      have := rk_step h.can (n : Int)
      have e : ((n + 1 : Nat) : Int) = n + 1 := by omega
      rw [e]
      unfold bI at this
      split at this <;> omega
  obtain ⟨n, hn⟩ := Int.eq_ofNat_of_zero_le (show 0 ≤ P by have := h.p1; omega)
  rw [← h.rkP, hn]
  exact h0 n
theorem rk_bd {P : Int} {l : List Sp} (h : Std P l) (x : Int) (h0 : 0 ≤ x) : 0 ≤ rk l x ∧ rk l x ≤ x := by
  obtain ⟨n, rfl⟩ := Int.eq_ofNat_of_zero_le h0
  induction n with
  | zero => rw [show ((0 : Nat) : Int) = 0 from rfl, h.rk0]; omega
  | succ n ih =>
    have := rk_step h.can (n : Int)
    have e : ((n + 1 : Nat) : Int) = n + 1 := by omega
    have := ih (by omega)
    rw [e]
    unfold bI at *
    split at * <;> omega
end
end
section
section
theorem quo_cases (a b : Int) (ha1 : -9223372036854775808 ≤ a) (ha2 : a ≤ 9223372036854775807) (hb : 1 ≤ b) (hb2 : b ≤ 9223372036854775807) :
    (a.tmod b = 0 ∧ a.tdiv b = a / b ∧ a % b = 0 ∨ a.tmod b < 0 ∧ a.tdiv b - 1 = a / b ∧ a.tmod b + b = a % b ∨ 0 < a.tmod b ∧ a.tdiv b = a / b ∧ a.tmod b = a % b) ∧
    (-9223372036854775807 ≤ a.tdiv b ∨ a.tmod b = 0 ∧ -9223372036854775808 ≤ a.tdiv b) ∧ a.tdiv b ≤ 9223372036854775807 ∧ -9223372036854775807 ≤ a.tmod b ∧ a.tmod b ≤ 9223372036854775807 := by
  have hm := Int.tmod_add_mul_tdiv a b
  rcases Int.lt_or_le a 0 with hn | hn
  · have hb1 := tmod_bd a b hn hb
    have hb2 := tdiv_bd a b hn hb
    by_cases hr : a.tmod b = 0
    · have e2 := tdiv_zero' a b hb hr
      have e3 := tmod_zero' a b hr
      exact ⟨.inl ⟨hr, e2, e3.symm⟩, .inr ⟨hr, by omega⟩, by omega, by omega, by omega⟩
    · have e2 := tdiv_neg' a b hn hb hr
      have e3 := tmod_neg' a b hn hb hr
      refine ⟨.inr (.inl ⟨by omega, e2, e3⟩), .inl ?_, by omega, by omega, by omega⟩
      rcases Int.lt_or_le (a.tdiv b) (-9223372036854775807) with h | h
      · exfalso
        have h5 : a.tdiv b = -9223372036854775808 := by omega
        have h6 : b = 1 := by
          rcases Int.lt_or_le 1 b with h7 | h7
          · rw [h5] at hm; omega
          · omega
        subst h6
        simp at hr
      · exact h
  · have e1 : a.tdiv b = a / b := Int.tdiv_eq_ediv_of_nonneg hn
    have e2 : a.tmod b = a % b := Int.tmod_eq_emod_of_nonneg hn
    have hq : 0 ≤ a / b := Int.ediv_nonneg hn (by omega)
    have hq2 : a / b ≤ a := Int.ediv_le_self _ hn
    have hd := div_bd (a := a) hb
    rw [e1, e2]
    refine ⟨?_, .inl (by omega), by omega, by omega, by omega⟩
    rcases Int.lt_or_le 0 (a % b) with h | h
    · exact .inr (.inr ⟨h, rfl, rfl⟩)
    · exact .inl ⟨by omega, rfl, by omega⟩
theorem p_integer_Div (a b : Int) (ha1 : -9223372036854775808 ≤ a) (ha2 : a ≤ 9223372036854775807) (hb : 1 ≤ b) (hb2 : b ≤ 9223372036854775807) : m_integer_Div std a b = some (a / b, a % b, 0) := by
  rw [m_integer_Div_eq]
  obtain ⟨hc, hq1, hq2, hr1, hr2⟩ := quo_cases a b ha1 ha2 hb hb2
  have h0 : (b == 0) = false := eF (by omega)
  have h1 : (b == -1) = false := eF (by omega)
  have hz : okNz b = true := dT (by omega)
  have hb3 : decide (b < 0) = false := dF (by omega)
  generalize a.tdiv b = q at *
  generalize a.tmod b = r at *
  have e1 : okI .i64 q = true := by rw [okI64]; exact dT (by omega)
  rcases hc with ⟨rfl, rfl, hd⟩ | ⟨h2, h3, h4⟩ | ⟨h2, rfl, rfl⟩
  · simp [h0, h1, hz, grd, e1, hd]
  · have h5 : (r == 0) = false := eF (by omega)
    have hl : decide (r < 0) = true := dT h2
    have e4 : okI .i64 (q - 1) = true := by rw [okI64]; exact dT (by omega)
    have e5 : okI .i64 (r + b) = true := by rw [okI64]; exact dT (by omega)
    simp [h0, h1, hz, grd, e1, h5, hl, hb3, e4, e5]
    rw [← h3, ← h4]
    simp [e4, e5]
  · have h5 : (a % b == 0) = false := eF (by omega)
    have hl : decide (a % b < 0) = false := dF (by omega)
    simp [h0, h1, hz, grd, e1, h5, hl, hb3]
theorem p_ref01_Div (a b : Int) (ha1 : -9223372036854775808 ≤ a) (ha2 : a ≤ 9223372036854775807) (hb : 1 ≤ b) (hb2 : b ≤ 9223372036854775807) : m_ref01_Div std a b = some (a / b, a % b, 0) := by
  rw [m_ref01_Div_eq]
  obtain ⟨hc, hq1, hq2, hr1, hr2⟩ := quo_cases a b ha1 ha2 hb hb2
  have h0 : (b == 0) = false := eF (by omega)
  have h1 : (b == -1) = false := eF (by omega)
  have hz : okNz b = true := dT (by omega)
  have hb3 : decide (b < 0) = false := dF (by omega)
  generalize a.tdiv b = q at *
  generalize a.tmod b = r at *
  have e1 : okI .i64 q = true := by rw [okI64]; exact dT (by omega)
  rcases hc with ⟨rfl, rfl, hd⟩ | ⟨h2, h3, h4⟩ | ⟨h2, rfl, rfl⟩
  · simp [h0, h1, hz, grd, e1, hd]
  · have h5 : (r == 0) = false := eF (by omega)
    have hl : decide (r < 0) = true := dT h2
    have e4 : okI .i64 (q - 1) = true := by rw [okI64]; exact dT (by omega)
    have e5 : okI .i64 (r + b) = true := by rw [okI64]; exact dT (by omega)
    simp [h0, h1, hz, grd, e1, h5, hl, hb3, e4, e5]
    rw [← h3, ← h4]
    simp [e4, e5]
  · have h5 : (a % b == 0) = false := eF (by omega)
    have hl : decide (a % b < 0) = false := dF (by omega)
    simp [h0, h1, hz, grd, e1, h5, hl, hb3]
theorem p_integer_Mod (a b : Int) (ha1 : -9223372036854775808 ≤ a) (ha2 : a ≤ 9223372036854775807) (hb : 1 ≤ b) (hb2 : b ≤ 9223372036854775807) : m_integer_Mod std a b = some (a % b) := by
  rw [m_integer_Mod_eq, p_integer_Div a b ha1 ha2 hb hb2]; rfl
theorem nat_tdiv (a b : Nat) : ((a : Int)).tdiv (b : Int) = ((a / b : Nat) : Int) := by rw [Int.tdiv_eq_ediv_of_nonneg (by omega)]; exact (Int.natCast_ediv a b).symm
theorem nat_tmod (a b : Nat) : ((a : Int)).tmod (b : Int) = ((a % b : Nat) : Int) := by rw [Int.tmod_eq_emod_of_nonneg (by omega)]; exact (Int.natCast_emod a b).symm

/-! common divisors -/
theorem p_integer_Gcd_L1 : ∀ (n a b : Nat), b < n → iter (m_integer_Gcd_L1 std) n ((a : Int), (b : Int)) = some (id ((Nat.gcd b a : Nat) : Int)) := by
  intro n
  induction n with
  | zero => intro a b h; omega
  | succ n ih =>
    intro a b h
    unfold iter
    rw [m_integer_Gcd_L1_eq]
    rcases Nat.eq_zero_or_pos b with h0 | h0
    · subst h0
      simp
    · have h1 : (((b : Nat) : Int) == 0) = false := eF (by omega)
      have h2 : (((b : Nat) : Int) == -1) = false := eF (by omega)
      have hz : okNz ((b : Nat) : Int) = true := dT (by omega)
      rw [nat_tmod a b]
      simp only [h1, h2, hz, grd, Bool.not_false, cond_true, cond_false]
      rw [ih b (a % b) (by have := Nat.mod_lt a h0; omega), Nat.gcd_rec b a]
theorem p_ref01_Gcd_L1 : ∀ (n a b : Nat), b < n → iter (m_ref01_Gcd_L1 std) n ((a : Int), (b : Int)) = some (Sum.inr ((Nat.gcd b a : Nat) : Int)) := by
  intro n
  induction n with
  | zero => intro a b h; omega
  | succ n ih =>
    intro a b h
    unfold iter
    rw [m_ref01_Gcd_L1_eq]
    rcases Nat.eq_zero_or_pos b with h0 | h0
    · subst h0
      simp
    · have h1 : (((b : Nat) : Int) == 0) = false := eF (by omega)
      have h2 : (((b : Nat) : Int) == -1) = false := eF (by omega)
      have hz : okNz ((b : Nat) : Int) = true := dT (by omega)
      rw [nat_tmod a b]
      simp only [h1, h2, hz, grd, Bool.not_false, cond_true, cond_false]
      rw [ih b (a % b) (by have := Nat.mod_lt a h0; omega), Nat.gcd_rec b a]
theorem p_integer_Gcd (a b : Nat) (ha : 1 ≤ a) (ha2 : a ≤ 9223372036854775807) (hb2 : b ≤ 9223372036854775807) : m_integer_Gcd std (a : Int) (b : Int) = some ((Nat.gcd a b : Nat) : Int) := by
  have hg : Nat.gcd b a ≤ a := Nat.gcd_le_right _ ha
  have hs : ∀ c : Nat, c ≤ 9223372036854775807 → m_integer_size std (c : Int) = some (c : Int) := fun c hc => by
    rw [m_integer_size_eq]
    exact bF (dF (by omega)) (gU (by omega) rfl)
  have hl : loop (m_integer_Gcd_L1 std) ((a : Int), (b : Int)) = some ((Nat.gcd b a : Nat) : Int) := p_integer_Gcd_L1 _ a b (by omega)
  rw [m_integer_Gcd_eq, hs a ha2, Option.bind_some, hs b hb2, Option.bind_some, hl, Option.bind_some, m_integer_signed_eq, Nat.gcd_comm a b]
  have h1 : decide (((Nat.gcd b a : Nat) : Int) ≤ 9223372036854775807) = true := dT (by omega)
  have h2 : okI .i64 ((Nat.gcd b a : Nat) : Int) = true := by rw [okI64]; exact dT (by omega)
  simp [h1, h2, grd]
theorem p_ref01_Gcd (a b : Nat) (ha : 1 ≤ a) (ha2 : a ≤ 9223372036854775807) (hb2 : b ≤ 9223372036854775807) : m_ref01_Gcd std (a : Int) (b : Int) = some ((Nat.gcd a b : Nat) : Int) := by
  have hg : Nat.gcd b a ≤ a := Nat.gcd_le_right _ ha
  have hl : loop (m_ref01_Gcd_L1 std) ((a : Int), (b : Int)) = some (.inr ((Nat.gcd b a : Nat) : Int)) := p_ref01_Gcd_L1 _ a b (by omega)
  rw [m_ref01_Gcd_eq, hl, Option.bind_some, Nat.gcd_comm a b]
  have h1 : (((Nat.gcd b a : Nat) : Int) == -9223372036854775808) = false := eF (by omega)
  have h2 : decide (((Nat.gcd b a : Nat) : Int) < 0) = false := dF (by omega)
  simp only [h1, h2, cond_false, Option.bind_some]
def comP (a b : Int) : Int := a * ((b.toNat / Nat.gcd a.toNat b.toNat : Nat) : Int)
theorem comP_parts {a b : Int} (ha : 1 ≤ a) (hb : 1 ≤ b) : ∃ g : Nat, 1 ≤ g ∧ Nat.gcd a.toNat b.toNat = g ∧ (g : Int) ≤ a ∧ (g : Int) ≤ b ∧ a = ((a.toNat / g : Nat) : Int) * g ∧ b = ((b.toNat / g : Nat) : Int) * g ∧ 1 ≤ a.toNat / g ∧ 1 ≤ b.toNat / g ∧
    comP a b = a * ((b.toNat / g : Nat) : Int) ∧ comP a b = ((a.toNat / g : Nat) : Int) * b := by
  have hg := Nat.gcd_pos_of_pos_left b.toNat (show 0 < a.toNat by omega)
  have h1 := Nat.gcd_dvd_left a.toNat b.toNat
  have h2 := Nat.gcd_dvd_right a.toNat b.toNat
  have l1 := Nat.gcd_le_left b.toNat (show 0 < a.toNat by omega)
  have l2 := Nat.gcd_le_right a.toNat (show 0 < b.toNat by omega)
  have e1 : a = ((a.toNat / Nat.gcd a.toNat b.toNat : Nat) : Int) * (Nat.gcd a.toNat b.toNat : Nat) := by
    rw [← Int.natCast_mul, Nat.div_mul_cancel h1]; omega
  have e2 : b = ((b.toNat / Nat.gcd a.toNat b.toNat : Nat) : Int) * (Nat.gcd a.toNat b.toNat : Nat) := by
    rw [← Int.natCast_mul, Nat.div_mul_cancel h2]; omega
  refine ⟨_, hg, rfl, by omega, by omega, e1, e2, Nat.div_pos l1 hg, Nat.div_pos l2 hg, rfl, ?_⟩
  unfold comP
  have e3 : ∀ x y g' : Int, a = x * g' → b = y * g' → a * y = x * b := fun x y g' u1 u2 => by
    rw [u1, u2, Int.mul_assoc, Int.mul_comm g' y]
  exact e3 _ _ _ e1 e2
theorem com_quo {a b : Int} (ha : 1 ≤ a) (hb : 1 ≤ b) : Int.tdiv (comP a b) b = ((a.toNat / Nat.gcd a.toNat b.toNat : Nat) : Int) ∧ Int.tdiv (comP a b) a = ((b.toNat / Nat.gcd a.toNat b.toNat : Nat) : Int) := by
  obtain ⟨g, g1, hg, g2, g3, e1, e2, q1, q2, c1, c2⟩ := comP_parts ha hb
  rw [hg]
  refine ⟨?_, ?_⟩
  · rw [c2]; exact Int.mul_tdiv_cancel _ (by omega)
  · rw [c1]; exact Int.mul_tdiv_cancel_left _ (by omega)
section
variable {a b : Int} (ha : 1 ≤ a) (ha2 : a ≤ 12622780800) (hb : 1 ≤ b) (hb2 : b ≤ 12622780800)
include ha ha2 hb hb2
theorem p_integer_Lcm : m_integer_Lcm std a b = some (bif fits (comP a b) then (comP a b, 0) else (0, 9)) := by
  obtain ⟨g, g1, hg, g2, g3, e1, e2, q1, q2, c1, c2⟩ := comP_parts ha hb
  have hd : Int.tdiv b (g : Int) = ((b.toNat / g : Nat) : Int) := by
    have : b = ((b.toNat : Nat) : Int) := by omega
    rw [this, nat_tdiv]; simp
  have hG : m_integer_Gcd std a b = some (g : Int) := by
    have := p_integer_Gcd a.toNat b.toNat (by omega) (by omega) (by omega)
    rw [show ((a.toNat : Nat) : Int) = a by omega, show ((b.toNat : Nat) : Int) = b by omega, hg] at this
    exact this
  have hq : ((b.toNat / g : Nat) : Int) ≤ b := by have := Nat.div_le_self b.toNat g; omega
  have hM : m_integer_Mul std a ((b.toNat / g : Nat) : Int) = some (bif fits (comP a b) then (comP a b, 0) else (0, 9)) := by
    unfold m_integer_Mul
    have f1 : fits a = true := by simp [fits]; omega
    have f2 : fits ((b.toNat / g : Nat) : Int) = true := by simp only [fits, Bool.and_eq_true, decide_eq_true_eq]; omega
    rw [f1, f2, c1]; rfl
  rw [m_integer_Lcm_eq]
  refine bB (v := false) (bF (dF (by omega)) (congrArg some (dF (by omega)))) (bF rfl (bB hG (gZ (by omega) ?_)))
  rw [hd]
  exact gI (by omega) (bB hM rfl)
end

/-! spans -/
def svB (a b : Int) : Bool := decide (-4398046511104 ≤ a ∧ b ≤ 4398046511104 ∧ a < b)
theorem svB_iff {a b : Int} : svB a b = true ↔ -4398046511104 ≤ a ∧ b ≤ 4398046511104 ∧ a < b := by simp [svB]
theorem svB_false {a b : Int} : svB a b = false ↔ ¬ (-4398046511104 ≤ a ∧ b ≤ 4398046511104 ∧ a < b) := by simp only [svB, decide_eq_false_iff_not]
theorem ands {p q : Prop} [Decidable p] [Decidable q] : (bif decide p then (some (decide q) : Option Bool) else some false) = some (decide (p ∧ q)) := by
  by_cases h : p
  · simp [h]
  · simp [h]
theorem p_interval_line (x : Int) : m_interval_line std x = some (decide (-4398046511104 ≤ x ∧ x ≤ 4398046511104)) := by
  rw [m_interval_line_eq, ands]; rfl
theorem p_interval_Valid (a b : Int) : m_interval_Valid std a b = some (svB a b) := by
  rw [m_interval_Valid_eq, p_interval_line, Option.bind_some, p_interval_line, Option.bind_some, ands]
  by_cases h : -4398046511104 ≤ a ∧ a ≤ 4398046511104
  · rw [dT h]
    simp only [cond_true, Option.bind_some]
    congr 1
    unfold svB
    rw [decide_eq_decide]; omega
  · rw [dF h]
    simp only [cond_false, Option.bind_some]
    congr 1
    unfold svB
    exact (dF (by omega)).symm
/-! a loop over places that may stop -/
theorem loop_first {ε : Type} {B : Int → Option (Int ⊕ ε)} {n : Nat} {p : Nat → Bool} {e1 : Nat → ε} {e0 : ε} (hn : n < 1180591620717411303423) (hs : ∀ i, i < n → p i = true → B (i : Int) = some (.inl ((i + 1 : Nat) : Int))) (hx : ∀ i, i < n → p i = false → B (i : Int) = some (.inr (e1 i))) (he : B (n : Int) = some (.inr e0)) :
    (∀ i, i < n → p i = true) ∧ loop B 0 = some e0 ∨ ∃ k, k < n ∧ p k = false ∧ (∀ i, i < k → p i = true) ∧ loop B 0 = some (e1 k) := by
  rcases first_or p n with h | ⟨k, h1, h2, h3⟩
  · exact .inl ⟨h, loop_to' (fun i => (i : Int)) (by omega) (fun i hi => hs i hi (h i hi)) he⟩
  · exact .inr ⟨k, h1, h2, h3, loop_to' (n := k) (fun i => (i : Int)) (by omega) (fun i hi => hs i (by omega) (h3 i hi)) (hx k h1 h2)⟩
theorem fr_def (l : List Sp) (k : Nat) : (List.getD l k (0, 0)).1 = fr l k := rfl
theorem tt_def (l : List Sp) (k : Nat) : (List.getD l k (0, 0)).2 = tt l k := rfl

/-- all spans are on the line -/
def spsB (l : List Sp) : Bool := l.all fun s => svB s.1 s.2
theorem spsB_iff {l : List Sp} : spsB l = true ↔ ∀ k, k < l.length → svB (fr l k) (tt l k) = true := by
  unfold spsB
  rw [List.all_eq_true]
  constructor
  · intro h k hk
    have := h l[k] (List.getElem_mem hk)
    rwa [list_fr l hk] at this
  · intro h s hs
    obtain ⟨k, hk, rfl⟩ := List.getElem_of_mem hs
    have := h k hk
    rw [list_fr l hk]
    exact this
/-! canonical lists -/
def canAt (l : List Sp) (i : Nat) : Bool := svB (fr l i) (tt l i) && (i == 0 || decide (tt l (i - 1) < fr l i))
theorem canAt_iff {l : List Sp} {i : Nat} : canAt l i = true ↔ (-4398046511104 ≤ fr l i ∧ tt l i ≤ 4398046511104 ∧ fr l i < tt l i) ∧ (i = 0 ∨ tt l (i - 1) < fr l i) := by
  unfold canAt
  rw [Bool.and_eq_true, svB_iff]; simp
def Line (l : List Sp) : Prop := ∀ s ∈ l, -4398046511104 ≤ s.1 ∧ s.2 ≤ 4398046511104
def canB (l : List Sp) : Bool := (List.range l.length).all (canAt l)
theorem canB_at {l : List Sp} : canB l = true ↔ ∀ k, k < l.length → canAt l k = true := by unfold canB; rw [List.all_eq_true]; simp
theorem canB_iff {l : List Sp} : canB l = true ↔ Can l ∧ Line l := by
  rw [canB_at]
  constructor
  · intro h
    refine ⟨Can.mk' (fun j hj => (canAt_iff.1 (h j hj)).1.2.2) (fun j hj => by rcases (canAt_iff.1 (h (j + 1) hj)).2 with h | h; omega; exact h), fun s hs => ?_⟩
    obtain ⟨k, hk, rfl⟩ := List.getElem_of_mem hs
    have := (canAt_iff.1 (h k hk)).1
    rw [list_fr l hk]
    exact ⟨this.1, this.2.1⟩
  · rintro ⟨h1, h2⟩ k hk
    have h3 := h2 l[k] (List.getElem_mem hk)
    rw [list_fr l hk] at h3
    refine canAt_iff.2 ⟨⟨h3.1, h3.2, h1.ne' hk⟩, ?_⟩
    rcases Nat.eq_zero_or_pos k with h | h
    · exact .inl h
    · exact .inr (h1.lt (show k - 1 < k by omega) hk)
theorem p_runs_Valid (l : List Sp) (hl : l.length ≤ 1099511627776) : Option.bind (loop (m_runs_Valid_L1 std l) 0) (fun e => match e with | .inl _ => some false | .inr _ => some true) = some (canB l) := by
  have h1 : ∀ i, i < l.length → m_runs_Valid_L1 std l (i : Int) = if canAt l i = true then some (.inl ((i + 1 : Nat) : Int)) else some (.inr (.inl ())) := fun i hi => by
    have hX : Option.bind (m_interval_Valid std (fr l i) (tt l i)) (fun b8 => bif (!b8) then some true else bif decide (0 < (i : Int)) then grd (okI .i64 ((i : Int) - 1)) <| grd (okIdx ((i : Int) - 1) l.length) <| grd (okKin (Int.toNat ((i : Int) - 1)) l.length) <| some (decide (fr l i ≤ tt l (Int.toNat ((i : Int) - 1)))) else some false) = some (!canAt l i) := by
      rw [p_interval_Valid]
      refine bB rfl ?_
      unfold canAt
      cases hv : svB (fr l i) (tt l i) with
      | false => rfl
      | true =>
        rcases Nat.eq_zero_or_pos i with h0 | h0
        · subst h0; rfl
        · refine bF rfl (bT (dT (by omega)) (gI (by omega) (gX (by omega) (gK (by omega) (congrArg some ?_)))))
          rw [show Int.toNat ((i : Int) - 1) = i - 1 by omega]
          have : (i == 0) = false := by simp; omega
          rw [this]
          simp only [Bool.true_and, Bool.false_or]
          by_cases h : tt l (i - 1) < fr l i
          · rw [dT h, dF (by omega)]; rfl
          · rw [dF h, dT (by omega)]; rfl
    rw [m_runs_Valid_L1_eq]
    simp only [Int.toNat_natCast, fr_def, tt_def]
    refine bT (dT (by omega)) ?_
    first
      | refine gX (by omega) (gK hi (bB hX ?_))
      | refine bB (gX (by omega) (gK hi hX)) ?_
    cases canAt l i with
    | true => exact gI (by omega) rfl
    | false => rfl
  have h2 := loop_first (B := m_runs_Valid_L1 std l) (n := l.length) (p := canAt l) (e1 := fun _ => .inl ()) (e0 := .inr ()) (by omega)
    (fun i hi hp => by rw [h1 i hi, if_pos hp]) (fun i hi hp => by rw [h1 i hi, if_neg (by rw [hp]; decide)]) (by rw [m_runs_Valid_L1_eq]; exact bF (dF (by omega)) rfl)
  rcases h2 with ⟨h3, h4⟩ | ⟨k, h3, h4, _, h5⟩
  · rw [h4, canB_at.2 h3]; rfl
  · have : canB l = false := by
      rw [Bool.eq_false_iff]
      intro h
      rw [canB_at.1 h k h3] at h4; cases h4
    rw [h5, this]; rfl
end
section
theorem sp_ext {a b : List Sp} (hl : a.length = b.length) (h : ∀ i, i < a.length → fr a i = fr b i ∧ tt a i = tt b i) : a = b := by
  refine List.ext_getElem hl fun i h1 h2 => ?_
  have := h i h1
  have e1 := list_fr a h1
  have e2 := list_fr b h2
  rw [e1, e2, this.1, this.2]
def eqSp (a b : List Sp) (i : Nat) : Bool := (fr a i == fr b i) && (tt a i == tt b i)
theorem p_slices_Equal (a b : List Sp) (ha : a.length ≤ 1099511627776) : m_slices_Equal std a b = some (decide (a = b)) := by
  rw [m_slices_Equal_eq]
  by_cases hl : a.length = b.length
  · refine bF (by rw [hl]; simp) ?_
    have h2 := loop_first (B := m_slices_Equal_L1 std a b) (n := a.length) (p := eqSp a b) (e1 := fun _ => .inl ()) (e0 := .inr ()) (by omega)
      (fun i hi hp => by
        rw [m_slices_Equal_L1_eq]
        simp only [Int.toNat_natCast, fr_def, tt_def]
        refine bT (dT (by omega)) (gX (by omega) (gK hi (gX (by omega) (gK (by omega) (bF (nF hp) (gI (by omega) rfl))))))) (fun i hi hp => by
        rw [m_slices_Equal_L1_eq]
        simp only [Int.toNat_natCast, fr_def, tt_def]
        refine bT (dT (by omega)) (gX (by omega) (gK hi (gX (by omega) (gK (by omega) (bT (nT hp) rfl)))))) (by rw [m_slices_Equal_L1_eq]; exact bF (dF (by omega)) rfl)
    rcases h2 with ⟨h3, h4⟩ | ⟨k, h3, h4, _, h5⟩
    · have : a = b := sp_ext hl fun i hi => by have := h3 i hi; simpa [eqSp] using this
      rw [h4, dT this]; rfl
    · have : a ≠ b := fun e => by subst e; simp [eqSp] at h4
      rw [h5, dF this]; rfl
  · have : a ≠ b := fun e => hl (by rw [e])
    rw [dF this]
    exact bT (nT (eF (by omega))) rfl
/-! joined -/
theorem joinS_len (l : List Sp) (s : Sp) : (joinS l s).length ≤ l.length + 1 := by
  rcases List.eq_nil_or_concat l with rfl | ⟨l', t, rfl⟩
  · rw [joinS_nil]; simp
  · simp only [List.concat_eq_append]
    rw [joinS_snoc]
    split <;> simp
theorem joinL_snoc (l : List Sp) (s : Sp) : joinL (l ++ [s]) = joinS (joinL l) s := by unfold joinL; rw [List.foldl_append]; rfl
theorem take_succ' (l : List Sp) {i : Nat} (hi : i < l.length) : l.take (i + 1) = l.take i ++ [(fr l i, tt l i)] := by
  rw [List.take_succ_eq_append_getElem hi, list_fr l hi]
theorem joinL_len (l : List Sp) : (joinL l).length ≤ l.length := by
  have key : ∀ n, n ≤ l.length → (joinL (l.take n)).length ≤ n := by
    intro n
    induction n with
    | zero => intro _; simp [joinL]
    | succ n ih =>
      intro h
      rw [take_succ' l (by omega), joinL_snoc]
      have := joinS_len (joinL (l.take n)) (fr l n, tt l n)
      have := ih (by omega)
      omega
  have := key l.length (Nat.le_refl _)
  rwa [List.take_length] at this
theorem p_sortSp {l : List Sp} (hb : BndL l) (hl : l.length ≤ 1099511627776) : m_sortSp std l = some (sortSp l) := by
  rw [m_sortSp_eq, dT hb]
  exact gR hl rfl
/-- sorted and joined -/
theorem joined_ok {l : List Sp} (hb : BndL l) (hn : ∀ s ∈ l, s.1 < s.2) : Can (joinL (sortSp l)) ∧ (∀ x, Mem (joinL (sortSp l)) x ↔ Mem l x) ∧ (joinL (sortSp l)).length ≤ l.length := by
  have hp := sortSp_perm l
  obtain ⟨h1, h2⟩ := joinL_mem (l := sortSp l) (fun s hs => hn s (hp.mem_iff.1 hs)) (sortSp_sorted hb)
  refine ⟨h1, fun x => (h2 x).trans (mem_perm hp), ?_⟩
  have := joinL_len (sortSp l)
  rw [sortSp_len] at this
  exact this
theorem std_of_mem {P : Int} {l : List Sp} (hP : 1 ≤ P) (h : Can l) (hm : ∀ x, Mem l x → 0 ≤ x ∧ x < P) : Std P l := by
  refine ⟨hP, h, fun s hs => ?_⟩
  have h1 := h.ne s hs
  have h2 := hm s.1 ⟨s, hs, Int.le_refl _, h1⟩
  have h3 := hm (s.2 - 1) ⟨s, hs, by omega, by omega⟩
  omega

/-! fold -/
section
variable {σ ε : Type}
theorem loop_firstS {B : Int × σ → Option ((Int × σ) ⊕ ε)} {n : Nat} {p : Nat → Bool} (f : Nat → σ) {e1 : Nat → ε} {e0 : ε} (hn : n < 1180591620717411303423) (hs : ∀ i, i < n → p i = true → B ((i : Int), f i) = some (.inl (((i + 1 : Nat) : Int), f (i + 1)))) (hx : ∀ i, i < n → p i = false → B ((i : Int), f i) = some (.inr (e1 i))) (he : B ((n : Int), f n) = some (.inr e0)) :
    (∀ i, i < n → p i = true) ∧ loop B (0, f 0) = some e0 ∨ ∃ k, k < n ∧ p k = false ∧ (∀ i, i < k → p i = true) ∧ loop B (0, f 0) = some (e1 k) := by
  rcases first_or p n with h | ⟨k, h1, h2, h3⟩
  · exact .inl ⟨h, loop_up f (by omega) (fun i hi => hs i hi (h i hi)) he⟩
  · exact .inr ⟨k, h1, h2, h3, loop_up (n := k) f (by omega) (fun i hi => hs i (by omega) (h3 i hi)) (hx k h1 h2)⟩
end
theorem foldP_len (P : Int) (s : Sp) : (foldP P s).length ≤ 2 := by unfold foldP; split <;> simp
theorem foldF_len (P : Int) (l : List Sp) : (l.flatMap (foldP P)).length ≤ 2 * l.length := by
  induction l with
  | nil => simp
  | cons s l ih =>
    rw [List.flatMap_cons, List.length_append, List.length_cons]
    have := foldP_len P s
    omega
theorem MemF_bd {P : Int} {l : List Sp} (hP : 1 ≤ P) {x : Int} (h : MemF P l x) : 0 ≤ x ∧ x < P := by
  obtain ⟨s, _, y, _, _, rfl⟩ := h
  exact ⟨Int.emod_nonneg y (by omega), Int.emod_lt_of_pos y (by omega)⟩
end
section
theorem odd_eq (i : Nat) : ((Int.tmod (i : Int) 2) == 1) = oddB i := by
  have h := nat_tmod i 2
  rw [show ((2 : Nat) : Int) = 2 from rfl] at h
  rw [h]
  unfold oddB
  rcases Nat.mod_two_eq_zero_or_one i with e | e <;> rw [e] <;> rfl
def rOr (a b : Bool) : Bool := a || b
def rAnd (a b : Bool) : Bool := a && b
def rSub (a b : Bool) : Bool := a && !b
/-- the new list behind a cut -/
def outC (b20 b21 : Bool) (out : List Sp) (t : Int) : List Sp :=
  if b20 = false ∧ b21 = true then out ++ [(t, 0)] else if b20 = true ∧ b21 = false then out.set (out.length - 1) ((out.getD (out.length - 1) (0, 0)).1, t) else out
theorem outC_len (b20 b21 : Bool) (out : List Sp) (t : Int) : (outC b20 b21 out t).length ≤ out.length + 1 := by
  unfold outC
  split
  · simp
  · split <;> simp
end
section
/-! the ends of a list -/
def endsF (l : List Sp) (n : Nat) : List Int := (List.range n).map (endL l)
theorem endsF_len (l : List Sp) (n : Nat) : (endsF l n).length = n := by simp [endsF]
theorem endsF_succ (l : List Sp) (n : Nat) : endsF l (n + 1) = endsF l n ++ [endL l n] := by simp [endsF, List.range_succ]
theorem endsF_get (l : List Sp) {n j : Nat} (h : j < n) : (endsF l n).getD j 0 = endL l j := by simp [endsF, List.getD_eq_getElem?_getD, h]
structure MrgI (a b : List Sp) (i k : Nat) (out : List Int) : Prop where
  hi : i ≤ 2 * a.length
  hk : k ≤ 2 * b.length
  len : out.length = i + k
  up : out.Pairwise (· ≤ ·)
  la : ∀ c ∈ out, (i < 2 * a.length → c ≤ endL a i) ∧ (k < 2 * b.length → c ≤ endL b k)
  ia : ∀ j, j < i → endL a j ∈ out
  ib : ∀ j, j < k → endL b j ∈ out
theorem MrgI.symm {a b : List Sp} {i k : Nat} {out : List Int} (h : MrgI a b i k out) : MrgI b a k i out :=
  ⟨h.hk, h.hi, by rw [h.len]; omega, h.up, fun c hc => (h.la c hc).symm, h.ib, h.ia⟩
theorem MrgI.left {a b : List Sp} (ha : Can a) {i k : Nat} {out : List Int} (h : MrgI a b i k out) (hi : i < 2 * a.length) (hle : k < 2 * b.length → endL a i ≤ endL b k) : MrgI a b (i + 1) k (out ++ [endL a i]) := by
  refine ⟨hi, h.hk, by simp [h.len]; omega, List.pairwise_append.2 ⟨h.up, List.pairwise_singleton _ _, fun c hc d hd => by rw [List.mem_singleton.1 hd]; exact (h.la c hc).1 hi⟩, fun c hc => ?_, fun j hj => ?_, fun j hj => List.mem_append_left _ (h.ib j hj)⟩
  · rcases List.mem_append.1 hc with hc | hc
    · have := h.la c hc
      refine ⟨fun h2 => ?_, this.2⟩
      have := endL_up ha h2
      have := this
      have := (h.la c hc).1 hi
      omega
    · rw [List.mem_singleton.1 hc]
      exact ⟨fun h2 => by have := endL_up ha h2; omega, hle⟩
  · by_cases e : j = i
    · subst e; simp
    · exact List.mem_append_left _ (h.ia j (by omega))
/-! lists cut out by a rule -/
theorem memB_const {l : List Sp} {x y : Int} (h : ∀ n, n < 2 * l.length → ¬ (x < endL l n ∧ endL l n ≤ y)) (hxy : x ≤ y) : memB l y = memB l x := by
  rw [Bool.eq_iff_iff, memB_iff, memB_iff, mem_idx, mem_idx]
  refine exists_congr fun j => ?_
  refine and_congr_right fun hj => ?_
  have h1 := h (2 * j) (by omega)
  have h2 := h (2 * j + 1) (by omega)
  rw [endL_even] at h1
  rw [endL_odd] at h2
  omega
theorem at_mem {l : List Sp} (h : Can l) {i : Nat} {x : Int} (h1 : ∀ j, j < i → tt l j ≤ x) (h2 : i < l.length → x < tt l i) : memB l x = (decide (i < l.length) && decide (fr l i ≤ x)) := by
  rw [Bool.eq_iff_iff, memB_iff, mem_idx, Bool.and_eq_true, decide_eq_true_eq, decide_eq_true_eq]
  constructor
  · rintro ⟨j, hj, a, b⟩
    have hij : i ≤ j := by
      rcases Nat.lt_or_ge j i with h3 | h3
      · have := h1 j h3; omega
      · exact h3
    refine ⟨by omega, ?_⟩
    by_cases e : i = j
    · subst e; exact a
    · have := h.lt (show i < j by omega) hj
      have := h.ne' (show i < l.length by omega)
      omega
  · rintro ⟨a, b⟩
    exact ⟨i, a, b, h2 a⟩
def rlK (kind : Int) : Bool → Bool → Bool := if kind = 0 then rOr else if kind = 1 then rAnd else rSub
theorem rlK_ff (kind : Int) : rlK kind false false = false := by unfold rlK; split; rfl; split <;> rfl
theorem addS_len (l : List Sp) (s : Sp) : (addS l s).length ≤ l.length + 1 := by
  rcases List.eq_nil_or_concat l with rfl | ⟨l', t, rfl⟩
  · rw [addS_nil]; simp
  · simp only [List.concat_eq_append]
    rw [addS_snoc]
    split <;> simp
theorem cutL_len (f : Int → Bool) (c : Nat → Int) (n : Nat) : (cutL f c n).length ≤ n := by
  induction n with
  | zero => simp [cutL]
  | succ n ih =>
    unfold cutL
    split
    · have := addS_len (cutL f c n) (c n, c (n + 1)); omega
    · omega
/-- one span more, as the reference adds it -/
theorem add_step {ε : Type} (acc : List Sp) (from' to : Int) (ha : acc.length ≤ 1099511627776) (K : List Sp → Option ε) :
    (Option.bind (bif (decide (0 < (((List.length acc) : Nat) : Int))) then
            grd (okI .i64 (((((List.length acc) : Nat) : Int) - 1))) <|
            grd (okIdx (((((List.length acc) : Nat) : Int) - 1)) ((List.length acc))) <|
            grd (okKin ((Int.toNat ((((List.length acc) : Nat) : Int) - 1))) ((List.length acc))) <|
            (some ((List.getD acc (Int.toNat ((((List.length acc) : Nat) : Int) - 1)) (0, 0)).2 == from'))
          else
            (some false) : Option ((Bool))) fun x155 =>
        Option.bind (
          bif x155 then
            grd (okI .i64 (((((List.length acc) : Nat) : Int) - 1))) <|
            grd (okIdx (((((List.length acc) : Nat) : Int) - 1)) ((List.length acc))) <|
            grd (okKin ((Int.toNat ((((List.length acc) : Nat) : Int) - 1))) ((List.length acc))) <|
            (some (List.set acc (Int.toNat ((((List.length acc) : Nat) : Int) - 1)) ((List.getD acc (Int.toNat ((((List.length acc) : Nat) : Int) - 1)) (0, 0)).1, to)))
          else
            grd (okRoom ((List.length acc))) <|
            grd (okRoom ((List.length [(from', to)]))) <|
            (some (acc ++ [(from', to)])) : Option ((List (Int × Int)))) K) = K (addS acc (from', to)) := by
  rcases List.eq_nil_or_concat acc with rfl | ⟨l', t, rfl⟩
  · exact bB (v := false) (bF (dF (by simp)) rfl) (bB (v := [(from', to)]) (bF rfl (gR (by simp) (gR (by simp) rfl))) rfl)
  · simp only [List.concat_eq_append] at *
    have hn : (l' ++ [t]).length = l'.length + 1 := by simp
    have e1 : Int.toNat ((((l' ++ [t]).length : Nat) : Int) - 1) = l'.length := by rw [hn]; omega
    have e2 : (l' ++ [t]).getD l'.length (0, 0) = t := by simp
    simp only [e1, e2]
    rw [addS_snoc]
    refine bB (v := decide (t.2 = from')) (bT (dT (by omega)) (gI (by omega) (gX (by omega) (gK (by omega) (congrArg some ?_))))) ?_
    · by_cases h : t.2 = from'
      · rw [dT h]; exact eT h
      · rw [dF h]; exact eF h
    by_cases h : t.2 = from'
    · rw [if_pos h, dT h]
      refine bB (v := l' ++ [(t.1, to)]) (bT rfl (gI (by omega) (gX (by omega) (gK (by omega) (congrArg some ?_))))) rfl
      rw [List.set_append_right _ _ (Nat.le_refl _)]
      simp
    · rw [if_neg h, dF h]
      exact bB (v := l' ++ [t] ++ [(from', to)]) (bF rfl (gR (by omega) (gR (by simp) rfl))) rfl
theorem up_get {l : List Int} (h : l.Pairwise (· ≤ ·)) {i j : Nat} (hij : i ≤ j) (hj : j < l.length) : l.getD i 0 ≤ l.getD j 0 := by
  have e1 : l.getD i 0 = l[i] := by simp [List.getD_eq_getElem?_getD, show i < l.length by omega]
  have e2 : l.getD j 0 = l[j] := by simp [List.getD_eq_getElem?_getD, hj]
  rw [e1, e2]
  by_cases e : i = j
  · subst e; exact Int.le_refl _
  · exact List.pairwise_iff_getElem.1 h i j (by omega) hj (by omega)
end
section
noncomputable def invB (P : Int) (l : List Sp) (q : Int) : Bool := @decide (InvQ P l q) (Classical.propDecidable _)
theorem invB_t {P : Int} {l : List Sp} {q : Int} (h : InvQ P l q) : invB P l q = true := by unfold invB; exact @decide_eq_true _ (Classical.propDecidable _) h
theorem invB_f {P : Int} {l : List Sp} {q : Int} (h : ¬ InvQ P l q) : invB P l q = false := by unfold invB; exact @decide_eq_false _ (Classical.propDecidable _) h
theorem invB_iff {P : Int} {l : List Sp} {q : Int} : invB P l q = true ↔ InvQ P l q := by
  constructor
  · intro h
    exact Classical.byContradiction fun h' => by rw [invB_f h'] at h; cases h
  · exact invB_t

/-! moved -/
def lowF (P m : Int) (s : Sp) : Option Sp := if P < s.2 + m then some (ma (s.1 + m) P - P, s.2 + m - P) else none
def highF (P m : Int) (s : Sp) : Option Sp := if s.1 + m < P then some (s.1 + m, mi (s.2 + m) P) else none
theorem ma_ge (a b : Int) : a ≤ ma a b ∧ b ≤ ma a b ∧ (ma a b = a ∨ ma a b = b) := by unfold ma; split <;> omega
theorem low_can {P m : Int} {l : List Sp} (h : Can l) : Can (l.filterMap (lowF P m)) ∧ ∀ x, Mem (l.filterMap (lowF P m)) x ↔ 0 ≤ x ∧ Mem l (x + P - m) := by
  refine ⟨⟨fun t ht => ?_, List.pairwise_filterMap.2 (h.pw.imp fun {s t} hst a ha b hb => ?_)⟩, fun x => ?_⟩
  · obtain ⟨s, hs, e⟩ := List.mem_filterMap.1 ht
    unfold lowF at e
    split at e
    · injection e with e
      subst e
      have := h.ne s hs
      have := ma_ge (s.1 + m) P
      show ma _ _ - P < s.2 + m - P
      omega
    · cases e
  · unfold lowF at ha hb
    split at ha
    · split at hb
      · injection ha with ha
        injection hb with hb
        subst ha; subst hb
        have := ma_ge (t.1 + m) P
        show s.2 + m - P < ma _ _ - P
        omega
      · cases hb
    · cases ha
  · constructor
    · rintro ⟨t, ht, a, b⟩
      obtain ⟨s, hs, e⟩ := List.mem_filterMap.1 ht
      unfold lowF at e
      split at e
      · injection e with e
        subst e
        have := ma_ge (s.1 + m) P
        change ma (s.1 + m) P - P ≤ x at a
        change x < s.2 + m - P at b
        exact ⟨by omega, s, hs, by omega, by omega⟩
      · cases e
    · rintro ⟨h0, s, hs, a, b⟩
      have := ma_ge (s.1 + m) P
      exact ⟨_, List.mem_filterMap.2 ⟨s, hs, if_pos (by omega)⟩, by show ma _ _ - P ≤ x; omega, by show x < s.2 + m - P; omega⟩
theorem high_can {P m : Int} {l : List Sp} (h : Can l) : Can (l.filterMap (highF P m)) ∧ ∀ x, Mem (l.filterMap (highF P m)) x ↔ x < P ∧ Mem l (x - m) := by
  refine ⟨⟨fun t ht => ?_, List.pairwise_filterMap.2 (h.pw.imp fun {s t} hst a ha b hb => ?_)⟩, fun x => ?_⟩
  · obtain ⟨s, hs, e⟩ := List.mem_filterMap.1 ht
    unfold highF at e
    split at e
    · injection e with e
      subst e
      have := h.ne s hs
      have := mi_le (s.2 + m) P
      show s.1 + m < mi _ _
      omega
    · cases e
  · unfold highF at ha hb
    split at ha
    · split at hb
      · injection ha with ha
        injection hb with hb
        subst ha; subst hb
        have := mi_le (s.2 + m) P
        show mi _ _ < t.1 + m
        omega
      · cases hb
    · cases ha
  · constructor
    · rintro ⟨t, ht, a, b⟩
      obtain ⟨s, hs, e⟩ := List.mem_filterMap.1 ht
      unfold highF at e
      split at e
      · injection e with e
        subst e
        have := mi_le (s.2 + m) P
        change s.1 + m ≤ x at a
        change x < mi (s.2 + m) P at b
        exact ⟨by omega, s, hs, by omega, by omega⟩
      · cases e
    · rintro ⟨h0, s, hs, a, b⟩
      have := mi_le (s.2 + m) P
      exact ⟨_, List.mem_filterMap.2 ⟨s, hs, if_pos (by omega)⟩, by show s.1 + m ≤ x; omega, by show x < mi _ _; omega⟩
theorem filterMap_len {α β : Type} (f : α → Option β) (l : List α) : (l.filterMap f).length ≤ l.length := List.length_filterMap_le f l
theorem emod_shift {P n x : Int} (hP : 1 ≤ P) (h1 : 0 ≤ x) (h2 : x < P) : (x - n) % P = if n % P ≤ x then x - n % P else x - n % P + P := by
  have a1 := Int.emod_nonneg n (show P ≠ 0 by omega)
  have a2 := Int.emod_lt_of_pos n (show 0 < P by omega)
  have a3 := Int.emod_add_mul_ediv n P
  obtain ⟨m, hm⟩ : ∃ m, n % P = m := ⟨_, rfl⟩
  rw [hm] at a1 a2 a3 ⊢
  split
  · have e : x - n = (x - m) + P * (-(n / P)) := by rw [Int.mul_neg]; omega
    rw [e, Int.add_mul_emod_self_left, Int.emod_eq_of_lt (by omega) (by omega)]
  · have e : x - n = (x - m + P) + P * (-(n / P) - 1) := by rw [Int.mul_sub, Int.mul_neg]; omega
    rw [e, Int.add_mul_emod_self_left, Int.emod_eq_of_lt (by omega) (by omega)]
/-! the changes -/
def chS (P : Int) (l : List Sp) (s : Sp) : List Int := (if 0 < s.1 ∨ tt l (l.length - 1) < P then [s.1] else []) ++ if s.2 < P then [s.2] else if 0 < fr l 0 then [0] else []
theorem chS_len (P : Int) (l : List Sp) (s : Sp) : (chS P l s).length ≤ 2 := by
  unfold chS
  rw [List.length_append]
  split <;> split <;> try split
  all_goals simp
theorem chL_len (P : Int) (l l' : List Sp) : (l'.flatMap (chS P l)).length ≤ 2 * l'.length := by
  induction l' with
  | nil => simp
  | cons s l' ih =>
    rw [List.flatMap_cons, List.length_append, List.length_cons]
    have := chS_len P l s
    omega
theorem p_chg_loop {P : Int} {l : List Sp} (hl : l.length ≤ 1000000) : loop (m_periodic_repeats_L1 std l P) (0, ([] : List Int)) = some (l.flatMap (chS P l)) := by
  have hh := loop_up (B := m_periodic_repeats_L1 std l P) (n := l.length) (fun i => (l.take i).flatMap (chS P l)) (e := l.flatMap (chS P l)) (by omega) (fun i hi => by
    have g1 := chL_len P l (l.take i)
    rw [List.length_take] at g1
    rw [take_succ' l hi, List.flatMap_append, m_periodic_repeats_L1_eq]
    generalize (l.take i).flatMap (chS P l) = acc at *
    have e0 : Int.toNat (((l.length : Nat) : Int) - 1) = l.length - 1 := by omega
    have ez : Int.toNat 0 = 0 := rfl
    simp only [Int.toNat_natCast, fr_def, tt_def, e0, ez]
    have e : [(fr l i, tt l i)].flatMap (chS P l) = chS P l (fr l i, tt l i) := by simp
    rw [e]
    unfold chS
    simp only []
    refine bT (dT (by omega)) (gX (by omega) (gK hi (bB (v := decide (0 < fr l i ∨ tt l (l.length - 1) < P)) ?_ ?_)))
    · by_cases h : 0 < fr l i
      · rw [dT (show 0 < fr l i ∨ tt l (l.length - 1) < P from .inl h)]
        exact bT (dT h) rfl
      · refine bF (dF h) (gI (by omega) (gX (by omega) (gK (by omega) (congrArg some ?_))))
        rw [decide_eq_decide]
        exact ⟨.inr, fun h' => h'.resolve_left h⟩
    · refine bB (v := acc ++ if 0 < fr l i ∨ tt l (l.length - 1) < P then [fr l i] else []) ?_ ?_
      · by_cases h : 0 < fr l i ∨ tt l (l.length - 1) < P
        · rw [dT h, if_pos h]
          exact bT rfl (gR (by omega) (gR (by simp) rfl))
        · rw [dF h, if_neg h, List.append_nil]
          exact bF rfl rfl
      · have g2 : (acc ++ if 0 < fr l i ∨ tt l (l.length - 1) < P then [fr l i] else []).length ≤ acc.length + 1 := by
          rw [List.length_append]; split <;> simp
        rw [← List.append_assoc]
        generalize (acc ++ if 0 < fr l i ∨ tt l (l.length - 1) < P then [fr l i] else []) = acc2 at *
        refine bB (v := acc2 ++ if tt l i < P then [tt l i] else if 0 < fr l 0 then [0] else []) ?_ (gI (by omega) rfl)
        by_cases h : tt l i < P
        · rw [if_pos h]
          exact bT (dT h) (gR (by omega) (gR (by simp) rfl))
        · rw [if_neg h]
          refine bF (dF h) (gX (by omega) (gK (by omega) ?_))
          by_cases h' : 0 < fr l 0
          · rw [if_pos h']
            exact bB (bT (dT h') (gR (by omega) (gR (by simp) rfl))) rfl
          · rw [if_neg h', List.append_nil]
            exact bB (bF (dF h') rfl) rfl) (by
    rw [m_periodic_repeats_L1_eq]
    refine bF (dF (by omega)) ?_
    simp only [List.take_length])
  exact hh
theorem mem_chS {P : Int} {l : List Sp} {s : Sp} {c : Int} : c ∈ chS P l s ↔ (c = s.1 ∧ (0 < s.1 ∨ tt l (l.length - 1) < P)) ∨ (c = s.2 ∧ s.2 < P) ∨ (c = 0 ∧ ¬ s.2 < P ∧ 0 < fr l 0) := by
  unfold chS
  rw [List.mem_append]
  refine or_congr ?_ ?_
  · split
    · rename_i h; simp [h]
    · rename_i h; simp [h]
  · split
    · rename_i h; simp [h]
    · rename_i h
      split
      · rename_i h'; simp [h, h']
      · rename_i h'; simp [h, h']
/-- where a list changes -/
theorem end_chg {l : List Sp} (h : Can l) (c : Int) : ¬ (Mem l (c - 1) ↔ Mem l c) ↔ ∃ j, j < l.length ∧ (fr l j = c ∨ tt l j = c) := by
  constructor
  · intro hn
    by_cases h1 : Mem l c
    · obtain ⟨j, hj, a, b⟩ := mem_idx.1 h1
      refine ⟨j, hj, .inl ?_⟩
      by_cases e : fr l j = c
      · exact e
      · exact absurd ⟨fun _ => h1, fun _ => mem_idx.2 ⟨j, hj, by omega, by omega⟩⟩ hn
    · by_cases h2 : Mem l (c - 1)
      · obtain ⟨j, hj, a, b⟩ := mem_idx.1 h2
        refine ⟨j, hj, .inr ?_⟩
        by_cases e : tt l j = c
        · exact e
        · exact absurd (mem_idx.2 ⟨j, hj, by omega, by omega⟩) h1
      · exact absurd ⟨fun h => absurd h h2, fun h => absurd h h1⟩ hn
  · rintro ⟨j, hj, e | e⟩ hiff
    · have hne := h.ne' hj
      obtain ⟨k, hk, a, b⟩ := mem_idx.1 (hiff.2 (mem_idx.2 ⟨j, hj, by omega, by omega⟩))
      rcases Nat.lt_trichotomy k j with u | u | u
      · have := h.lt u hj; omega
      · subst u; omega
      · have := h.lt u hk; omega
    · have hne := h.ne' hj
      obtain ⟨k, hk, a, b⟩ := mem_idx.1 (hiff.1 (mem_idx.2 ⟨j, hj, by omega, by omega⟩))
      rcases Nat.lt_trichotomy k j with u | u | u
      · have := h.lt u hj; have := h.ne' hk; omega
      · subst u; omega
      · have := h.lt u hk; omega
theorem Std.at {P : Int} {l : List Sp} (h : Std P l) {j : Nat} (hj : j < l.length) : 0 ≤ fr l j ∧ fr l j < tt l j ∧ tt l j ≤ P := by
  have h1 := h.bd l[j] (List.getElem_mem hj)
  have h2 := h.can.ne' hj
  rw [list_fr l hj] at h1
  exact ⟨h1.1, h2, h1.2⟩
theorem Can.mono {l : List Sp} (h : Can l) {j k : Nat} (hjk : j ≤ k) (hk : k < l.length) : fr l j ≤ fr l k ∧ tt l j ≤ tt l k := by
  by_cases e : j = k
  · subst e; exact ⟨Int.le_refl _, Int.le_refl _⟩
  · have := h.lt (show j < k by omega) hk
    have := h.ne' hk
    have := h.ne' (show j < l.length by omega)
    omega
theorem mem_ch {P : Int} {l : List Sp} {c : Int} : c ∈ l.flatMap (chS P l) ↔ ∃ j, j < l.length ∧ ((c = fr l j ∧ (0 < fr l j ∨ tt l (l.length - 1) < P)) ∨ (c = tt l j ∧ tt l j < P) ∨ (c = 0 ∧ ¬ tt l j < P ∧ 0 < fr l 0)) := by
  rw [List.mem_flatMap]
  constructor
  · rintro ⟨s, hs, h⟩
    obtain ⟨j, hj, rfl⟩ := List.getElem_of_mem hs
    rw [list_fr l hj] at h
    exact ⟨j, hj, mem_chS.1 h⟩
  · rintro ⟨j, hj, h⟩
    refine ⟨l[j], List.getElem_mem hj, ?_⟩
    rw [list_fr l hj]
    exact mem_chS.2 h
theorem chg_iff {P : Int} {l : List Sp} (h : Std P l) {c : Int} : c ∈ l.flatMap (chS P l) ↔ 0 ≤ c ∧ c < P ∧ Chg P l c := by
  have p1 := h.p1
  rw [mem_ch]
  unfold Chg PS
  by_cases hc : 0 < c ∧ c < P
  · rw [Int.emod_eq_of_lt (show 0 ≤ c - 1 by omega) (by omega), Int.emod_eq_of_lt (show 0 ≤ c by omega) hc.2, end_chg h.can]
    constructor
    · rintro ⟨j, hj, u | u | u⟩
      · exact ⟨by omega, hc.2, j, hj, .inl u.1.symm⟩
      · exact ⟨by omega, hc.2, j, hj, .inr u.1.symm⟩
      · omega
    · rintro ⟨_, _, j, hj, u | u⟩
      · exact ⟨j, hj, .inl ⟨u.symm, .inl (by omega)⟩⟩
      · exact ⟨j, hj, .inr (.inl ⟨u.symm, by omega⟩)⟩
  · by_cases c0 : c = 0
    · subst c0
      have e1 : (0 - 1 : Int) % P = P - 1 := by
        have e : (0 - 1 : Int) = (P - 1) + P * (-1) := by omega
        rw [e, Int.add_mul_emod_self_left, Int.emod_eq_of_lt (by omega) (by omega)]
      rw [e1, Int.zero_emod]
      have hm0 : Mem l 0 ↔ 0 < l.length ∧ fr l 0 = 0 := by
        rw [mem_idx]
        constructor
        · rintro ⟨j, hj, a, b⟩
          have h1 := h.at hj
          have h2 := h.at (show 0 < l.length by omega)
          have := (h.can.mono (Nat.zero_le j) hj).1
          exact ⟨by omega, by omega⟩
        · rintro ⟨a, b⟩
          have := h.at a
          exact ⟨0, a, by omega, by omega⟩
      have hmP : Mem l (P - 1) ↔ 0 < l.length ∧ tt l (l.length - 1) = P := by
        rw [mem_idx]
        constructor
        · rintro ⟨j, hj, a, b⟩
          have h1 := h.at hj
          have h2 := h.at (show l.length - 1 < l.length by omega)
          have := (h.can.mono (show j ≤ l.length - 1 by omega) (by omega)).2
          exact ⟨by omega, by omega⟩
        · rintro ⟨a, b⟩
          have := h.at (show l.length - 1 < l.length by omega)
          exact ⟨l.length - 1, by omega, by omega, by omega⟩
      rw [hm0, hmP]
      constructor
      · rintro ⟨j, hj, u | u | u⟩
        · have h0 := h.at (show 0 < l.length by omega)
          have := (h.can.mono (Nat.zero_le j) hj).1
          refine ⟨by omega, by omega, fun hiff => ?_⟩
          have := (hiff.2 ⟨by omega, by omega⟩).2
          omega
        · have := h.at hj
          omega
        · have h1 := h.at hj
          have h2 := h.at (show l.length - 1 < l.length by omega)
          have := (h.can.mono (show j ≤ l.length - 1 by omega) (by omega)).2
          refine ⟨by omega, by omega, fun hiff => ?_⟩
          have := (hiff.1 ⟨by omega, by omega⟩).2
          omega
      · rintro ⟨_, _, hn⟩
        have hpos : 0 < l.length := by
          rcases Nat.eq_zero_or_pos l.length with h0 | h0
          · exact absurd ⟨fun h => by omega, fun h => by omega⟩ hn
          · exact h0
        have h0 := h.at hpos
        have hL := h.at (show l.length - 1 < l.length by omega)
        by_cases u : fr l 0 = 0
        · refine ⟨0, hpos, .inl ⟨u.symm, .inr ?_⟩⟩
          by_cases v : tt l (l.length - 1) = P
          · exact absurd ⟨fun _ => ⟨hpos, u⟩, fun _ => ⟨hpos, v⟩⟩ hn
          · omega
        · refine ⟨l.length - 1, by omega, .inr (.inr ⟨rfl, ?_, by omega⟩)⟩
          by_cases v : tt l (l.length - 1) = P
          · omega
          · exact absurd ⟨fun h => absurd h.2 v, fun h => absurd h.2 u⟩ hn
    · constructor
      · rintro ⟨j, hj, u | u | u⟩
        · have := h.at hj; omega
        · have := h.at hj; omega
        · omega
      · rintro ⟨a, b, _⟩; omega
theorem ch_nodup {P : Int} {l : List Sp} (h : Std P l) : (l.flatMap (chS P l)).Pairwise (· ≠ ·) := by
  rw [List.pairwise_flatMap]
  have hfr : ∀ s ∈ l, fr l 0 ≤ s.1 := fun s hs => by
    obtain ⟨j, hj, rfl⟩ := List.getElem_of_mem hs
    rw [list_fr l hj]
    exact (h.can.mono (Nat.zero_le j) hj).1
  refine ⟨fun s hs => ?_, ?_⟩
  · have h1 := h.can.ne s hs
    have h2 := hfr s hs
    unfold chS
    refine List.pairwise_append.2 ⟨by split <;> simp, by split; simp; split <;> simp, fun a ha b hb => ?_⟩
    split at ha
    · rw [List.mem_singleton.1 ha]
      split at hb
      · rw [List.mem_singleton.1 hb]; omega
      · split at hb
        · rw [List.mem_singleton.1 hb]; omega
        · cases hb
    · cases ha
  · refine List.Pairwise.imp_of_mem (fun {s t} hs ht hst a ha b hb => ?_) h.can.pw
    have s1 := h.can.ne s hs
    have t1 := h.can.ne t ht
    have t2 := (h.bd t ht).2
    have s2 := hfr s hs
    rcases mem_chS.1 ha with u | u | u <;> rcases mem_chS.1 hb with v | v | v <;> omega
theorem ch_ChL {P : Int} {l : List Sp} (h : Std P l) (hn : 0 < (l.flatMap (chS P l)).length) : ChL P l (sortI (l.flatMap (chS P l))) := by
  have hp := sortI_perm (l.flatMap (chS P l))
  refine ⟨h.p1, by rw [sortI_len]; exact hn, ?_, fun c => by rw [hp.mem_iff]; exact chg_iff h⟩
  have h1 := sortI_sorted (l.flatMap (chS P l))
  have h2 : (sortI (l.flatMap (chS P l))).Pairwise (· ≠ ·) := (hp.symm.pairwise_iff (fun h => Ne.symm h)).1 (ch_nodup h)
  exact (List.pairwise_and_iff.2 ⟨h1, h2⟩).imp fun ⟨a, b⟩ => by omega
theorem const_inv {P : Int} {l : List Sp} (h : ∀ c, ¬ Chg P l c) (q : Int) : InvQ P l q := by
  have step : ∀ c, PS P l (c - 1) ↔ PS P l c := fun c => Classical.byContradiction fun hn => h c hn
  have up : ∀ (n : Nat) (x : Int), PS P l (x + n) ↔ PS P l x := by
    intro n
    induction n with
    | zero => intro x; simp
    | succ n ih =>
      intro x
      have := step (x + ((n + 1 : Nat) : Int))
      rw [show x + ((n + 1 : Nat) : Int) - 1 = x + n by omega] at this
      rw [← this, ih]
  intro x
  rcases Int.le_total 0 q with hq | hq
  · obtain ⟨n, rfl⟩ := Int.eq_ofNat_of_zero_le hq
    exact up n x
  · obtain ⟨n, hn⟩ := Int.eq_ofNat_of_zero_le (show 0 ≤ -q by omega)
    have := up n (x + q)
    rw [show x + q + (n : Int) = x by omega] at this
    exact this.symm
theorem chg_all {P : Int} {l : List Sp} (hP : 1 ≤ P) (h : ∀ c, 0 ≤ c → c < P → ¬ Chg P l c) (c : Int) : ¬ Chg P l c := by
  have h1 := Int.emod_nonneg c (show P ≠ 0 by omega)
  have h2 := Int.emod_lt_of_pos c (show 0 < P by omega)
  have h3 := Int.emod_add_mul_ediv c P
  have := h (c % P) h1 h2
  rw [← Chg_per (P := P) (l := l) (c % P) (c / P), h3] at this
  exact this
theorem p_periodic_repeats {P q : Int} {l : List Sp} (h : Std P l) (hP2 : P ≤ 12622780800) (hl : l.length ≤ 100000) (hq1 : 1 ≤ q) (hq : q ∣ P) : m_periodic_repeats std P q l = some (invB P l q) := by
  have hP := h.p1
  have hq2 : q ≤ P := Int.le_of_dvd (by omega) hq
  have hcl := chL_len P l l
  rw [m_periodic_repeats_eq, p_chg_loop (by omega), Option.bind_some, m_sortI_eq]
  refine bB (gR (by omega) rfl) ?_
  rw [sortI_len]
  by_cases h0 : (l.flatMap (chS P l)).length = 0
  · refine bT (eT (by omega)) (congrArg some (invB_t (const_inv (chg_all hP fun c c1 c2 hc => ?_) q)).symm)
    have := (chg_iff h).2 ⟨c1, c2, hc⟩
    rw [List.eq_nil_of_length_eq_zero h0] at this
    cases this
  · refine bF (eF (by omega)) ?_
    have hC := ch_ChL h (by omega)
    have hlen := sortI_len (l.flatMap (chS P l))
    obtain ⟨C, hCe⟩ : ∃ C, sortI (l.flatMap (chS P l)) = C := ⟨_, rfl⟩
    rw [hCe] at hC hlen ⊢
    rw [← hlen]
    obtain ⟨n, hn⟩ : ∃ n : Int, (C.length : Int) * q = n := ⟨_, rfl⟩
    have hn0 : 0 ≤ n := by rw [← hn]; exact Int.mul_nonneg (by omega) (by omega)
    have hn1 : n ≤ 200000 * 12622780800 := by
      rw [← hn]
      exact Int.mul_le_mul (by omega) (by omega) (by omega) (by omega)
    have hdiv : Int.tdiv n P = n / P := Int.tdiv_eq_ediv_of_nonneg hn0
    have hk0 : 0 ≤ n / P := Int.ediv_nonneg hn0 (by omega)
    have hk1 : n / P ≤ n := Int.ediv_le_self _ hn0
    have hme := Int.emod_add_mul_ediv n P
    have hme0 := Int.emod_nonneg n (show P ≠ 0 by omega)
    rw [hn, hdiv]
    obtain ⟨k, hk⟩ : ∃ k : Nat, n / P = k := Int.eq_ofNat_of_zero_le hk0
    rw [hk] at hk0 hk1 hme ⊢
    have hkP : (k : Int) * P = P * k := Int.mul_comm _ _
    have hkn : (k : Int) * P ≤ n := by rw [hkP]; omega
    have hkn0 : 0 ≤ (k : Int) * P := Int.mul_nonneg hk0 (by omega)
    refine gI (by omega) (gZ (by omega) (gI (by omega) (gI (by omega) ?_)))
    obtain ⟨T, hT⟩ : ∃ T : Nat, q * (T : Int) = P := by
      obtain ⟨t, ht⟩ := hq
      have : 0 ≤ t := by
        rcases Int.lt_or_le t 0 with hneg | hneg
        · exfalso
          have : q * t ≤ 1 * t := Int.mul_le_mul_of_nonpos_right hq1 (by omega)
          omega
        · exact hneg
      obtain ⟨t', rfl⟩ := Int.eq_ofNat_of_zero_le this
      exact ⟨t', ht.symm⟩
    by_cases hi : InvQ P l q
    · rw [invB_t hi]
      obtain ⟨k', k1, _, k3, k4, k5⟩ := hC.of_inv hq1 hT hi
      have hkk : k' = k := by
        rw [hn] at k3
        have : n / P = k' := by rw [k3]; exact Int.mul_ediv_cancel _ (by omega)
        omega
      subst hkk
      refine bF (nF (eT (by rw [hn] at k3; omega))) (gZ (by omega) (bF (nF (eT ?_)) ?_))
      · have := nat_tmod k' 2
        rw [show ((2 : Nat) : Int) = 2 from rfl] at this
        rw [this, k4]; rfl
      · have hloop := loop_to' (B := m_periodic_repeats_L2 std C P q) (n := C.length) (fun i => (i : Int)) (e := .inr ()) (by omega) (fun i hi => by
          have hci := hC.at hi
          have hm := Nat.mod_lt (i + k') (show 0 < C.length by omega)
          rw [m_periodic_repeats_L2_eq, hn, hdiv, hk]
          have em : Int.tmod ((i : Int) + (k' : Int)) (C.length : Int) = (((i + k') % C.length : Nat) : Int) := by rw [← nat_tmod, Int.natCast_add]
          rw [em]
          simp only [Int.toNat_natCast]
          have h5 := k5 i hi
          have hcm := hC.at hm
          refine bT (dT (by omega)) (gX (by omega) (gK hi (gI (by omega) (bB (v := wrapP P (C.getD i 0 + q)) ?_ (gI (by omega) (gZ (by omega) (gX (by omega) (gK hm (bF (nF (eT h5)) (gI (by omega) rfl))))))))))
          unfold wrapP
          by_cases hw : P ≤ C.getD i 0 + q
          · rw [if_pos hw]; exact bT (dT hw) (gI (by omega) rfl)
          · rw [if_neg hw]; exact bF (dF hw) rfl) (by rw [m_periodic_repeats_L2_eq]; exact bF (dF (by omega)) rfl)
        have hloop' : loop (m_periodic_repeats_L2 std C P q) 0 = some (.inr ()) := hloop
        rw [hloop']; rfl
    · rw [invB_f hi]
      by_cases hnk : (k : Int) * P = n
      · refine bF (nF (eT hnk)) (gZ (by omega) ?_)
        by_cases hodd : k % 2 = 0
        · refine bF (nF (eT ?_)) ?_
          · have := nat_tmod k 2
            rw [show ((2 : Nat) : Int) = 2 from rfl] at this
            rw [this, hodd]; rfl
          · have hstep : ∀ i, i < C.length → m_periodic_repeats_L2 std C P q (i : Int) = if C.getD ((i + k) % C.length) 0 = wrapP P (C.getD i 0 + q) then some (.inl ((i + 1 : Nat) : Int)) else some (.inr (.inl ())) := fun i hi => by
              have hci := hC.at hi
              have hm := Nat.mod_lt (i + k) (show 0 < C.length by omega)
              rw [m_periodic_repeats_L2_eq, hn, hdiv, hk]
              have em : Int.tmod ((i : Int) + (k : Int)) (C.length : Int) = (((i + k) % C.length : Nat) : Int) := by rw [← nat_tmod, Int.natCast_add]
              rw [em]
              simp only [Int.toNat_natCast]
              have hcm := hC.at hm
              refine bT (dT (by omega)) (gX (by omega) (gK hi (gI (by omega) (bB (v := wrapP P (C.getD i 0 + q)) ?_ (gI (by omega) (gZ (by omega) (gX (by omega) (gK hm ?_))))))))
              · unfold wrapP
                by_cases hw : P ≤ C.getD i 0 + q
                · rw [if_pos hw]; exact bT (dT hw) (gI (by omega) rfl)
                · rw [if_neg hw]; exact bF (dF hw) rfl
              · by_cases hw : C.getD ((i + k) % C.length) 0 = wrapP P (C.getD i 0 + q)
                · rw [if_pos hw]; exact bF (nF (eT hw)) (gI (by omega) rfl)
                · rw [if_neg hw]; exact bT (nT (eF hw)) rfl
            have h2 := loop_first (B := m_periodic_repeats_L2 std C P q) (n := C.length) (p := fun i => decide (C.getD ((i + k) % C.length) 0 = wrapP P (C.getD i 0 + q))) (e1 := fun _ => .inl ()) (e0 := .inr ()) (by omega)
              (fun i hi hp => by rw [hstep i hi, if_pos (of_decide_eq_true hp)]) (fun i hi hp => by rw [hstep i hi, if_neg (of_decide_eq_false hp)]) (by rw [m_periodic_repeats_L2_eq]; exact bF (dF (by omega)) rfl)
            rcases h2 with ⟨h3, _⟩ | ⟨j, _, _, _, h5⟩
            · exact absurd (hC.inv_of hq1 hq2 (by rw [hn, hnk]) hodd fun i hi => of_decide_eq_true (h3 i hi)) hi
            · rw [h5]; rfl
        · refine bT (nT (eF ?_)) rfl
          have := nat_tmod k 2
          rw [show ((2 : Nat) : Int) = 2 from rfl] at this
          rw [this]; omega
      · exact bT (nT (eF hnk)) rfl
end
section
/-! cut -/
theorem cutTo_snoc (b : Int) (l : List Sp) (s : Sp) : cutTo b (l ++ [s]) = cutTo b l ++ if s.1 < b then [(s.1, mi s.2 b)] else [] := by
  unfold cutTo
  rw [List.filter_append, List.map_append]
  congr 1
  by_cases h : s.1 < b
  · simp [h]
  · simp [h]
theorem cutTo_len (b : Int) (l : List Sp) : (cutTo b l).length ≤ l.length := by unfold cutTo; rw [List.length_map]; exact List.length_filter_le _ _
theorem p_periodic_least_L2 (b : Int) (l : List Sp) (hl : l.length ≤ 1099511627775) : loop (m_periodic_least_L2 std b l) (0, ([] : List Sp)) = some (cutTo b l) := by
  have h := loop_up (B := m_periodic_least_L2 std b l) (n := l.length) (fun i => cutTo b (l.take i)) (e := cutTo b l) (by omega) (fun i hi => by
    have hlen := cutTo_len b (l.take i)
    rw [List.length_take] at hlen
    rw [take_succ' l hi, cutTo_snoc, m_periodic_least_L2_eq]
    generalize cutTo b (l.take i) = acc at *
    simp only [Int.toNat_natCast, fr_def, tt_def]
    refine bT (dT (by omega)) (gX (by omega) (gK hi ?_))
    by_cases h : fr l i < b
    · rw [if_pos h]
      exact bB (bT (dT h) (gR (by omega) (gR (by simp) rfl))) (gI (by omega) rfl)
    · rw [if_neg h, List.append_nil]
      exact bB (bF (dF h) rfl) (gI (by omega) rfl)) (by
    rw [m_periodic_least_L2_eq]
    refine bF (dF (by omega)) ?_
    simp only [List.take_length])
  exact h
/-! the search -/
theorem nat_dvd {p q : Nat} : ((q : Int) ∣ (p : Int)) ↔ p % q = 0 := by rw [Int.natCast_dvd_natCast]; exact Nat.dvd_iff_mod_eq_zero
/-- what is known ahead of q -/
structure SrcI (p : Nat) (l : List Sp) (q : Nat) (best : Int) : Prop where
  q1 : 1 ≤ q
  no : ∀ d : Nat, 1 ≤ d → d < q → p % d = 0 → ¬ InvQ p l d
  b1 : 1 ≤ best
  b2 : best ∣ (p : Int)
  b3 : InvQ p l best
  le : ∀ d : Nat, 1 ≤ d → d < q → p % d = 0 → InvQ p l ((p / d : Nat) : Int) → best ≤ ((p / d : Nat) : Int)
theorem SrcI.done {p q : Nat} {l : List Sp} {best : Int} (h : SrcI p l q best) (hp : 1 ≤ p) (hq : p / q < q) : Best p l best := by
  refine ⟨h.b1, h.b2, h.b3, fun d h1 h2 h3 => ?_⟩
  obtain ⟨d, rfl⟩ := Int.eq_ofNat_of_zero_le (show 0 ≤ d by omega)
  have hd := nat_dvd.1 h2
  have hle : d ≤ p := by have := Int.le_of_dvd (by omega) h2; omega
  rcases Nat.lt_or_ge d q with hlt | hge
  · exact absurd h3 (h.no d (by omega) hlt hd)
  · have hdd : p / d * d = p := Nat.div_mul_cancel (Nat.dvd_of_mod_eq_zero hd)
    have e1 : p / d < q := by
      have : p / d ≤ p / q := Nat.div_le_div_left hge (by have := h.q1; omega)
      omega
    have e2 : 1 ≤ p / d := Nat.div_pos hle (by omega)
    have e3 : p % (p / d) = 0 := Nat.mod_eq_zero_of_dvd ⟨d, hdd.symm⟩
    have e4 : p / (p / d) = d := by
      refine Nat.div_eq_of_eq_mul_left (by omega) ?_
      rw [Nat.mul_comm]; exact hdd.symm
    have := h.le (p / d) e2 e1 e3 (by rw [e4]; exact h3)
    rwa [e4] at this
theorem found_best {p q : Nat} {l : List Sp} (q1 : 1 ≤ q) (hno : ∀ d : Nat, 1 ≤ d → d < q → p % d = 0 → ¬ InvQ p l d) (hd : p % q = 0) (hi : InvQ p l q) : Best p l q := by
  refine ⟨by omega, nat_dvd.2 hd, hi, fun d h1 h2 h3 => ?_⟩
  obtain ⟨d, rfl⟩ := Int.eq_ofNat_of_zero_le (show 0 ≤ d by omega)
  rcases Nat.lt_or_ge d q with hlt | hge
  · exact absurd h3 (hno d (by omega) hlt (nat_dvd.1 h2))
  · omega
theorem SrcI.found {p q : Nat} {l : List Sp} {best : Int} (h : SrcI p l q best) (hd : p % q = 0) (hi : InvQ p l q) : Best p l q := found_best h.q1 h.no hd hi
theorem SrcI.skip {p q : Nat} {l : List Sp} {best : Int} (h : SrcI p l q best) (hd : p % q ≠ 0) : SrcI p l (q + 1) best := by
  refine ⟨by omega, fun d h1 h2 h3 => ?_, h.b1, h.b2, h.b3, fun d h1 h2 h3 => ?_⟩
  · by_cases e : d = q
    · subst e; exact absurd h3 hd
    · exact h.no d h1 (by omega) h3
  · by_cases e : d = q
    · subst e; exact absurd h3 hd
    · exact h.le d h1 (by omega) h3
theorem SrcI.next {p q : Nat} {l : List Sp} {best : Int} (h : SrcI p l q best) (hp : 1 ≤ p) (hd : p % q = 0) (hn : ¬ InvQ p l q) : SrcI p l (q + 1) (if invB p l ((p / q : Nat) : Int) = true then ((p / q : Nat) : Int) else best) := by
  have hq1 := h.q1
  have hdq : q ≤ p := Nat.le_of_dvd (by omega) (Nat.dvd_of_mod_eq_zero hd)
  have hno : ∀ d : Nat, 1 ≤ d → d < q + 1 → p % d = 0 → ¬ InvQ p l d := fun d h1 h2 h3 => by
    by_cases e : d = q
    · subst e; exact hn
    · exact h.no d h1 (by omega) h3
  by_cases hi : InvQ p l ((p / q : Nat) : Int)
  · rw [if_pos (invB_t hi)]
    refine ⟨by omega, hno, by have := Nat.div_pos hdq (show 0 < q by omega); omega, nat_dvd.2 (Nat.mod_eq_zero_of_dvd ⟨q, (Nat.div_mul_cancel (Nat.dvd_of_mod_eq_zero hd)).symm⟩), hi, fun d h1 h2 h3 h4 => ?_⟩
    have : p / q ≤ p / d := Nat.div_le_div_left (by omega) (by omega)
    omega
  · rw [if_neg (by rw [invB_f hi]; decide)]
    refine ⟨by omega, hno, h.b1, h.b2, h.b3, fun d h1 h2 h3 h4 => ?_⟩
    by_cases e : d = q
    · subst e; exact absurd h4 hi
    · exact h.le d h1 (by omega) h3 h4
theorem SrcI.init {p : Nat} {l : List Sp} (hp : 1 ≤ p) : SrcI p l 1 p :=
  ⟨by omega, fun d h1 h2 => by omega, by omega, Int.dvd_refl _, InvQ.self _ _, fun d h1 h2 => by omega⟩
theorem mod_eq (p q : Nat) : ((Int.tmod (p : Int) (q : Int)) == 0) = decide (p % q = 0) := by
  rw [nat_tmod]
  by_cases h : p % q = 0
  · rw [h]; rfl
  · rw [dF h]; exact eF (by omega)
theorem p_periodic_least {P : Int} {l : List Sp} (h : Std P l) (hP2 : P ≤ 12622780800) (hl : l.length ≤ 100000) : ∃ d, Best P l d ∧ m_periodic_least std P l = some (d, cutTo d l) := by
  obtain ⟨p, rfl⟩ := Int.eq_ofNat_of_zero_le (show 0 ≤ P by have := h.p1; omega)
  have hp : 1 ≤ p := by have := h.p1; omega
  have hloop := loop_is (B := m_periodic_least_L1 std l (p : Int)) (y := ((p : Int), 1)) (fun y => ∃ q : Nat, y.2 = (q : Int) ∧ SrcI p l q y.1 ∧ q ≤ 13000000000)
    (fun y => 13000000001 - y.2.toNat) (fun d => Best p l d) ⟨1, rfl, SrcI.init hp, by omega⟩ (by show _ - _ < _; omega) (by
      rintro ⟨best, z⟩ ⟨q, h1, hs, hq⟩
      change z = (q : Int) at h1
      change SrcI p l q best at hs
      subst h1
      have hq1 := hs.q1
      rw [m_periodic_least_L1_eq, nat_tdiv, mod_eq]
      have hdle : p / q ≤ p := Nat.div_le_self _ _
      have hd0 : 0 ≤ ((p / q : Nat) : Int) := Int.natCast_nonneg _
      by_cases hlt : q ≤ p / q
      · by_cases hd : p % q = 0
        · have hdv : ((q : Int) ∣ (p : Int)) := nat_dvd.2 hd
          have hdv2 : (((p / q : Nat) : Int) ∣ (p : Int)) := nat_dvd.2 (Nat.mod_eq_zero_of_dvd ⟨q, (Nat.div_mul_cancel (Nat.dvd_of_mod_eq_zero hd)).symm⟩)
          have e1 := p_periodic_repeats h hP2 hl (show (1 : Int) ≤ (q : Int) by omega) hdv
          have e2 := p_periodic_repeats h hP2 hl (show (1 : Int) ≤ ((p / q : Nat) : Int) by omega) hdv2
          by_cases hi : InvQ p l q
          · refine ⟨.inr (q : Int), ?_, hs.found hd hi⟩
            exact gZ (by omega) (gI (by omega) (bT (dT (by omega)) (bF (nF (dT hd)) (bB e1 (by rw [invB_t hi]; rfl)))))
          · refine ⟨.inl (if invB p l ((p / q : Nat) : Int) = true then ((p / q : Nat) : Int) else best, ((q + 1 : Nat) : Int)), ?_, ⟨q + 1, rfl, hs.next hp hd hi, by omega⟩, by show 13000000001 - ((q + 1 : Nat) : Int).toNat < 13000000001 - (q : Int).toNat; simp only [Int.toNat_natCast]; omega⟩
            refine gZ (by omega) (gI (by omega) (bT (dT (by omega)) (bF (nF (dT hd)) (bB e1 ?_))))
            rw [invB_f hi]
            refine bF rfl (bB e2 (bB (v := if invB p l ((p / q : Nat) : Int) = true then ((p / q : Nat) : Int) else best) ?_ (gI (by omega) rfl)))
            cases invB p l ((p / q : Nat) : Int) <;> rfl
        · refine ⟨.inl (best, ((q + 1 : Nat) : Int)), ?_, ⟨q + 1, rfl, hs.skip hd, by omega⟩, by show 13000000001 - ((q + 1 : Nat) : Int).toNat < 13000000001 - (q : Int).toNat; simp only [Int.toNat_natCast]; omega⟩
          exact gZ (by omega) (gI (by omega) (bT (dT (by omega)) (bT (nT (dF hd)) (gI (by omega) rfl))))
      · exact ⟨.inr best, gZ (by omega) (gI (by omega) (bF (dF (by omega)) rfl)), hs.done hp (by omega)⟩)
  obtain ⟨d, e, hb⟩ := hloop
  refine ⟨d, hb, ?_⟩
  rw [m_periodic_least_eq, e]
  exact bB rfl (bB (p_periodic_least_L2 d l (by omega)) rfl)
theorem sq_bd {p q : Nat} (hp : p ≤ 12622780800) (h : q * q ≤ p) : q ≤ 200000 := by
  rcases Nat.lt_or_ge 200000 q with h1 | h1
  · have : 200001 * 200001 ≤ q * q := Nat.mul_le_mul h1 h1
    omega
  · exact h1
theorem sq_small {q : Nat} (h : q ≤ 200001) : q * q ≤ 40000400001 := by
  have := Nat.mul_le_mul h h
  omega
theorem sq_div {p q : Nat} (hq : 1 ≤ q) : q * q ≤ p ↔ q ≤ p / q := (Nat.le_div_iff_mul_le (by omega)).symm
end
section
/-- a set as the program takes it -/
structure VP (P : Int) (l : List Sp) : Prop extends PV P l where
  p2 : P ≤ 12622780800
  n2 : l.length ≤ 2000
noncomputable def pvB (P : Int) (l : List Sp) : Bool := @decide (VP P l) (Classical.propDecidable _)
theorem pvB_t {P : Int} {l : List Sp} (h : VP P l) : pvB P l = true := by unfold pvB; exact @decide_eq_true _ (Classical.propDecidable _) h
theorem pvB_f {P : Int} {l : List Sp} (h : ¬ VP P l) : pvB P l = false := by unfold pvB; exact @decide_eq_false _ (Classical.propDecidable _) h
theorem pvB_iff {P : Int} {l : List Sp} : pvB P l = true ↔ VP P l :=
  ⟨fun h => Classical.byContradiction fun h' => by (rw [pvB_f h'] at h; cases h), pvB_t⟩
/-- canonical, from 0 to P -/
def insB (P : Int) (l : List Sp) : Bool := decide (l.length ≤ 2000) && (canB l && (decide (l.length = 0) || (decide (0 ≤ fr l 0) && decide (tt l (l.length - 1) ≤ P))))
theorem insB_iff {P : Int} {l : List Sp} (hP : 1 ≤ P) (hP2 : P ≤ 12622780800) : insB P l = true ↔ l.length ≤ 2000 ∧ Std P l := by
  unfold insB
  rw [Bool.and_eq_true, Bool.and_eq_true, Bool.or_eq_true, Bool.and_eq_true, decide_eq_true_eq, decide_eq_true_eq, decide_eq_true_eq, decide_eq_true_eq, canB_iff]
  constructor
  · rintro ⟨h1, ⟨h2, h3⟩, h4⟩
    refine ⟨h1, hP, h2, fun s hs => ?_⟩
    obtain ⟨j, hj, rfl⟩ := List.getElem_of_mem hs
    rw [list_fr l hj]
    have a := h2.mono (Nat.zero_le j) hj
    have b := h2.mono (show j ≤ l.length - 1 by omega) (by omega)
    show 0 ≤ fr l j ∧ tt l j ≤ P
    omega
  · rintro ⟨h1, h2⟩
    refine ⟨h1, ⟨h2.can, fun s hs => ?_⟩, ?_⟩
    · have := h2.bd s hs
      have := h2.can.ne s hs
      omega
    · rcases Nat.eq_zero_or_pos l.length with h0 | h0
      · exact .inl h0
      · have a := h2.at h0
        have b := h2.at (show l.length - 1 < l.length by omega)
        exact .inr ⟨by omega, by omega⟩
theorem p_runs_Valid' (l : List Sp) : m_runs_Valid std l = some (decide (l.length ≤ 2000) && canB l) := by
  rw [m_runs_Valid_eq]
  by_cases h : l.length ≤ 2000
  · rw [dT h, Bool.true_and]
    exact bF (dF (by omega)) (p_runs_Valid l (by omega))
  · rw [dF h]
    exact bT (dT (by omega)) rfl
theorem p_periodic_inside (P : Int) (l : List Sp) : m_periodic_inside std P l = some (insB P l) := by
  rw [m_periodic_inside_eq]
  refine bB (v := insB P l) (bB (p_runs_Valid' l) ?_) rfl
  unfold insB
  by_cases h : l.length ≤ 2000
  · rw [dT h]
    cases canB l with
    | false => rfl
    | true =>
      rcases Nat.eq_zero_or_pos l.length with h0 | h0
      · rw [dT h0]
        exact bT rfl (bT (eT (by omega)) rfl)
      · rw [dF (show ¬ l.length = 0 by omega)]
        refine bT rfl (bF (eF (by omega)) ?_)
        have e0 : Int.toNat (((l.length : Nat) : Int) - 1) = l.length - 1 := by omega
        have ez : Int.toNat 0 = 0 := rfl
        simp only [fr_def, tt_def, e0, ez]
        by_cases h1 : 0 ≤ fr l 0
        · rw [dT h1]
          exact bT rfl (gX (by omega) (gK (by omega) (gI (by omega) (gX (by omega) (gK (by omega) rfl)))))
        · rw [dF h1]
          exact bF rfl (gX (by omega) (gK (by omega) rfl))
  · rw [dF h]; rfl
theorem pv_least {P d : Int} {l : List Sp} (h : Std P l) (hP2 : P ≤ 12622780800) (hn : l.length ≤ 2000) (hb : Best P l d) : (d == P) = pvB P l := by
  by_cases e : d = P
  · subst e
    rw [pvB_t ⟨⟨h, hb⟩, hP2, hn⟩]; simp
  · rw [pvB_f fun h' => e (hb.uniq h'.best)]
    exact eF e
theorem p_periodic_Valid (P : Int) (l : List Sp) : m_periodic_Valid std P l = some (pvB P l) := by
  rw [m_periodic_Valid_eq]
  refine bB (v := pvB P l) ?_ rfl
  by_cases h1 : 1 ≤ P
  · refine bT (dT h1) ?_
    by_cases h2 : P ≤ 12622780800
    · refine bT (dT h2) (bB (p_periodic_inside P l) ?_)
      cases hi : insB P l with
      | false =>
        rw [pvB_f fun h => by rw [(insB_iff h1 h2).2 ⟨h.n2, h.toStd⟩] at hi; cases hi]; rfl
      | true =>
        obtain ⟨hn, hs⟩ := (insB_iff h1 h2).1 hi
        obtain ⟨d, hb, e⟩ := p_periodic_least hs h2 (by omega)
        rw [e]
        refine bT rfl (bB rfl (congrArg some ?_))
        exact pv_least hs h2 hn hb
    · rw [pvB_f fun h => h2 h.p2]
      exact bF (dF h2) rfl
  · rw [pvB_f fun h => h1 h.p1]
    exact bF (dF h1) rfl
/-! the form of a list -/
/-- what is given back for a list from 0 to P: its form, or the error for too many -/
def IsNF (P : Int) (l : List Sp) (r : Int × List Sp × Int) : Prop := ∃ d, Best P l d ∧ r = if 2000 < (cutTo d l).length then (0, [], 5) else (d, cutTo d l, 0)
theorem IsNF.uniq {P : Int} {l : List Sp} {r r' : Int × List Sp × Int} (h : IsNF P l r) (h' : IsNF P l r') : r = r' := by
  obtain ⟨d, hb, rfl⟩ := h
  obtain ⟨d', hb', rfl⟩ := h'
  rw [hb.uniq hb']
theorem IsNF.same {P : Int} {l l' : List Sp} {r r' : Int × List Sp × Int} (h : IsNF P l r) (h' : IsNF P l' r') (hs : Std P l) (hs' : Std P l') (hm : ∀ x, Mem l x ↔ Mem l' x) : r = r' := by
  have := can_unique hs.can hs'.can hm
  subst this
  exact h.uniq h'
/-! spans anywhere -/
theorem InF_iff {P : Int} {s : Sp} (hP : 1 ≤ P) {x : Int} : InF P s x ↔ 0 ≤ x ∧ x < P ∧ (x - s.1) % P < s.2 - s.1 := by
  constructor
  · rintro ⟨y, a, b, rfl⟩
    have h1 := Int.emod_nonneg y (show P ≠ 0 by omega)
    have h2 := Int.emod_lt_of_pos y (show 0 < P by omega)
    refine ⟨h1, h2, ?_⟩
    have e : (y % P - s.1) % P = (y - s.1) % P := by rw [Int.emod_sub_emod]
    rw [e]
    have : (y - s.1) % P ≤ y - s.1 := by
      have h3 := Int.emod_add_mul_ediv (y - s.1) P
      have h4 : 0 ≤ P * ((y - s.1) / P) := Int.mul_nonneg (by omega) (Int.ediv_nonneg (by omega) (by omega))
      omega
    omega
  · rintro ⟨h1, h2, h3⟩
    have h4 := Int.emod_nonneg (x - s.1) (show P ≠ 0 by omega)
    have h5 := Int.emod_add_mul_ediv (x - s.1) P
    refine ⟨s.1 + (x - s.1) % P, by omega, by omega, ?_⟩
    have e : s.1 + (x - s.1) % P = x + P * (-((x - s.1) / P)) := by rw [Int.mul_neg]; omega
    rw [e, Int.add_mul_emod_self_left, Int.emod_eq_of_lt h1 h2]
theorem MemF_nil {P : Int} {x : Int} : ¬ MemF P [] x := fun ⟨_, h, _⟩ => by cases h
theorem MemF_app {P : Int} {l : List Sp} {s : Sp} {x : Int} : MemF P (l ++ [s]) x ↔ MemF P l x ∨ InF P s x := by
  unfold MemF
  constructor
  · rintro ⟨t, ht, h⟩
    rcases List.mem_append.1 ht with ht | ht
    · exact .inl ⟨t, ht, h⟩
    · rw [List.mem_singleton.1 ht] at h; exact .inr h
  · rintro (⟨t, ht, h⟩ | h)
    · exact ⟨t, List.mem_append_left _ ht, h⟩
    · exact ⟨s, by simp, h⟩
theorem spsB_at {l : List Sp} (h : spsB l = true) : ∀ s ∈ l, -4398046511104 ≤ s.1 ∧ s.2 ≤ 4398046511104 ∧ s.1 < s.2 := fun s hs => by
  unfold spsB at h
  rw [List.all_eq_true] at h
  exact svB_iff.1 (h s hs)
/-- what Of gives back -/
def IsOf (P : Int) (l : List Sp) (r : Int × List Sp × Int) : Prop :=
  if P < 1 ∨ 12622780800 < P ∨ spsB l = false then r = (0, [], 1) else if 2000 < l.length then r = (0, [], 5) else ∃ l', Std P l' ∧ (∀ x, Mem l' x ↔ MemF P l x) ∧ l'.length ≤ 2 * l.length + 1 ∧ IsNF P l' r
theorem IsOf.uniq {P : Int} {l : List Sp} {r r' : Int × List Sp × Int} (h : IsOf P l r) (h' : IsOf P l r') : r = r' := by
  unfold IsOf at h h'
  split at h
  · rename_i h0
    rw [if_pos h0] at h'
    rw [h, h']
  · rename_i h0
    rw [if_neg h0] at h'
    split at h
    · rename_i h1
      rw [if_pos h1] at h'
      rw [h, h']
    · rename_i h1
      rw [if_neg h1] at h'
      obtain ⟨a, a1, a2, _, a4⟩ := h
      obtain ⟨b, b1, b2, _, b4⟩ := h'
      exact a4.same b4 a1 b1 fun x => by rw [a2, b2]
theorem IsOf.bad {P : Int} {l : List Sp} (h : P < 1 ∨ 12622780800 < P ∨ spsB l = false) : IsOf P l (0, [], 1) := by unfold IsOf; rw [if_pos h]
theorem IsOf.full {P : Int} {l : List Sp} (h : ¬ (P < 1 ∨ 12622780800 < P ∨ spsB l = false)) (h2 : 2000 < l.length) : IsOf P l (0, [], 5) := by unfold IsOf; rw [if_neg h, if_pos h2]
theorem IsOf.mk' {P : Int} {l l' : List Sp} {r : Int × List Sp × Int} (h : ¬ (P < 1 ∨ 12622780800 < P ∨ spsB l = false)) (h2 : ¬ 2000 < l.length) (a1 : Std P l') (a2 : ∀ x, Mem l' x ↔ MemF P l x) (a3 : l'.length ≤ 2 * l.length + 1) (a4 : IsNF P l' r) : IsOf P l r := by unfold IsOf; rw [if_neg h, if_neg h2]; exact ⟨l', a1, a2, a3, a4⟩
end
section
/-! a set written with a multiple of its period -/
def shL (d : Int) (l : List Sp) : List Sp := l.map fun s => (s.1 + d, s.2 + d)
def copies (P : Int) (l : List Sp) : Nat → List Sp
  | 0 => []
  | t + 1 => copies P l t ++ shL (P * t) l
theorem shL_len (d : Int) (l : List Sp) : (shL d l).length = l.length := by simp [shL]
theorem copies_len (P : Int) (l : List Sp) : ∀ t, (copies P l t).length = t * l.length := by
  intro t
  induction t with
  | zero => simp [copies]
  | succ t ih => rw [copies, List.length_append, ih, shL_len, Nat.succ_mul]
theorem copies_nil (P : Int) (t : Nat) : copies P [] t = [] := by
  have := copies_len P [] t
  exact List.eq_nil_of_length_eq_zero (by simpa using this)
theorem copies_ok {P : Int} {l : List Sp} (h : Std P l) : ∀ t, (∀ s ∈ copies P l t, s.1 < s.2 ∧ 0 ≤ s.1 ∧ s.2 ≤ P * t) ∧ (copies P l t).Pairwise (fun a b => a.2 ≤ b.1) ∧ ∀ x, Mem (copies P l t) x ↔ 0 ≤ x ∧ x < P * t ∧ PS P l x := by
  have hP := h.p1
  intro t
  induction t with
  | zero => exact ⟨fun s hs => (by cases hs), List.Pairwise.nil, fun x => ⟨fun h => absurd h (mem_nil x), fun ⟨a, b, _⟩ => by simp at b; omega⟩⟩
  | succ t ih =>
    obtain ⟨h1, h2, h3⟩ := ih
    have e : P * ((t + 1 : Nat) : Int) = P * t + P := by rw [Int.natCast_add, Int.mul_add]; omega
    have ht0 : 0 ≤ P * (t : Int) := Int.mul_nonneg (by omega) (by omega)
    have hsh : ∀ s ∈ shL (P * t) l, s.1 < s.2 ∧ P * t ≤ s.1 ∧ s.2 ≤ P * t + P := fun s hs => by
      obtain ⟨u, hu, rfl⟩ := List.mem_map.1 hs
      have a := h.bd u hu
      have b := h.can.ne u hu
      exact ⟨by show u.1 + _ < u.2 + _; omega, by show _ ≤ u.1 + _; omega, by show u.2 + _ ≤ _; omega⟩
    rw [e]
    refine ⟨fun s hs => ?_, ?_, fun x => ?_⟩
    · rcases List.mem_append.1 hs with hs | hs
      · have := h1 s hs; omega
      · have := hsh s hs; omega
    · refine List.pairwise_append.2 ⟨h2, ?_, fun a ha b hb => ?_⟩
      · unfold shL
        rw [List.pairwise_map]
        exact h.can.pw.imp fun {a b} hab => by show a.2 + _ ≤ b.1 + _; omega
      · have := h1 a ha
        have := hsh b hb
        omega
    · rw [copies, mem_app, h3]
      have hx : Mem (shL (P * t) l) x ↔ Mem l (x - P * t) := by
        constructor
        · rintro ⟨s, hs, a, b⟩
          obtain ⟨u, hu, rfl⟩ := List.mem_map.1 hs
          change u.1 + P * t ≤ x at a
          change x < u.2 + P * t at b
          exact ⟨u, hu, by omega, by omega⟩
        · rintro ⟨u, hu, a, b⟩
          exact ⟨_, List.mem_map.2 ⟨u, hu, rfl⟩, by show u.1 + P * t ≤ x; omega, by show x < u.2 + P * t; omega⟩
      rw [hx]
      have hps : 0 ≤ x - P * t → x - P * t < P → (Mem l (x - P * t) ↔ PS P l x) := fun a b => by
        have e2 : x = (x - P * t) + P * t := by omega
        have := PS_per (P := P) (l := l) (x - P * t) t
        rw [← e2] at this
        rw [this]
        unfold PS
        rw [Int.emod_eq_of_lt a b]
      constructor
      · rintro (⟨a, b, c⟩ | hm)
        · exact ⟨a, by omega, c⟩
        · have hb := h.mem hm
          exact ⟨by omega, by omega, (hps hb.1 hb.2).1 hm⟩
      · rintro ⟨a, b, c⟩
        by_cases hlt : x < P * t
        · exact .inl ⟨a, hlt, c⟩
        · exact .inr ((hps (by omega) (by omega)).2 c)
theorem addL_ok : ∀ {c acc : List Sp}, Can acc → (∀ s ∈ c, s.1 < s.2) → c.Pairwise (fun a b => a.2 ≤ b.1) → (∀ t ∈ acc, ∀ s ∈ c, t.2 ≤ s.1) → Can (c.foldl addS acc) ∧ ∀ x, Mem (c.foldl addS acc) x ↔ Mem acc x ∨ Mem c x := by
  intro c
  induction c with
  | nil => intro acc h _ _ _; exact ⟨h, fun x => ⟨.inl, fun h => h.elim id fun h => absurd h (mem_nil x)⟩⟩
  | cons s c ih =>
    intro acc h hn hp ha
    obtain ⟨p1, p2⟩ := List.pairwise_cons.1 hp
    obtain ⟨q1, q2, q3⟩ := addS_ok (s := s) h (hn s (by simp)) fun t ht => ha t ht s (by simp)
    obtain ⟨r1, r2⟩ := ih q1 (fun t ht => hn t (by simp [ht])) p2 fun t ht u hu => by have := q3 t ht; have := p1 u hu; omega
    refine ⟨r1, fun x => ?_⟩
    show Mem (List.foldl addS (addS acc s) c) x ↔ _
    rw [r2, q2, mem_cons]
    exact or_assoc
theorem addL_len : ∀ (c acc : List Sp), (c.foldl addS acc).length ≤ acc.length + c.length := by
  intro c
  induction c with
  | nil => intro acc; simp
  | cons s c ih =>
    intro acc
    have := ih (addS acc s)
    have := addS_len acc s
    rw [List.length_cons]
    show (List.foldl addS (addS acc s) c).length ≤ _
    omega
/-- what spreading gives -/
structure IsSp (P m : Int) (l r : List Sp) : Prop where
  std : Std m r
  mem : ∀ x, Mem r x ↔ 0 ≤ x ∧ x < m ∧ PS P l x
  n2 : r.length ≤ 2000
theorem IsSp.uniq {P m : Int} {l r r' : List Sp} (h : IsSp P m l r) (h' : IsSp P m l r') : r = r' := can_unique h.std.can h'.std.can fun x => by rw [h.mem, h'.mem]
theorem sp_nil {P m : Int} (hm : 1 ≤ m) : IsSp P m [] [] := ⟨⟨hm, Can.nil, fun s hs => (by cases hs)⟩, fun x => ⟨fun h => absurd h (mem_nil x), fun h => absurd h.2.2 (mem_nil _)⟩, by simp⟩
theorem sp_one {m : Int} {l : List Sp} (hm : 1 ≤ m) (h : Std 1 l) (h0 : 0 < l.length) : IsSp 1 m l [(0, m)] := by
  refine ⟨⟨hm, Can.one (by show (0 : Int) < m; omega), fun t ht => by rw [List.mem_singleton.1 ht]; exact ⟨by show (0 : Int) ≤ 0; omega, Int.le_refl _⟩⟩, fun x => ?_, by simp⟩
  have hps : PS 1 l x := by
    unfold PS
    have a := h.at h0
    rw [Int.emod_one]
    exact mem_idx.2 ⟨0, h0, by omega, by omega⟩
  rw [mem_one]
  exact ⟨fun h => ⟨h.1, h.2, hps⟩, fun h => ⟨h.1, h.2.1⟩⟩
section
variable {P m : Int} {l : List Sp} {n : Nat} (h : Std P l) (hm : m = P * n) (hm1 : 1 ≤ m) (hm2 : m ≤ 12622780800) (hn : n * l.length ≤ 2000) (hl : l.length ≤ 2000)
include h hm hm1 hm2 hn hl
end

/-! combinations -/
/-- how often a period fits into the common one -/
def comN (a b : Int) : Nat := b.toNat / Nat.gcd a.toNat b.toNat
def comM (a b : Int) : Nat := a.toNat / Nat.gcd a.toNat b.toNat
def cnt (Pa Pb : Int) (la lb : List Sp) : Nat := comN Pa Pb * la.length + comM Pa Pb * lb.length
/-- what a combination gives back -/
def IsComb (rl : Bool → Bool → Bool) (Pa Pb : Int) (la lb : List Sp) (r : Int × List Sp × Int) : Prop :=
  (¬ (VP Pa la ∧ VP Pb lb) ∧ r = (0, [], 1)) ∨ ((VP Pa la ∧ VP Pb lb) ∧ ¬ comP Pa Pb ≤ 12622780800 ∧ r = (0, [], 9)) ∨ ((VP Pa la ∧ VP Pb lb) ∧ comP Pa Pb ≤ 12622780800 ∧ 2000 < cnt Pa Pb la lb ∧ r = (0, [], 5)) ∨
  ((VP Pa la ∧ VP Pb lb) ∧ comP Pa Pb ≤ 12622780800 ∧ ¬ 2000 < cnt Pa Pb la lb ∧ ∃ l', Std (comP Pa Pb) l' ∧ (∀ x, Mem l' x ↔ 0 ≤ x ∧ x < comP Pa Pb ∧ rl (psB Pa la x) (psB Pb lb x) = true) ∧ IsNF (comP Pa Pb) l' r)
theorem IsComb.uniq {rl : Bool → Bool → Bool} {Pa Pb : Int} {la lb : List Sp} {r r' : Int × List Sp × Int} (h : IsComb rl Pa Pb la lb r) (h' : IsComb rl Pa Pb la lb r') : r = r' := by
  rcases h with ⟨a, e⟩ | ⟨a, b, e⟩ | ⟨a, b, c, e⟩ | ⟨a, b, c, l1, e1, e2, e3⟩ <;> rcases h' with ⟨a', e'⟩ | ⟨a', b', e'⟩ | ⟨a', b', c', e'⟩ | ⟨a', b', c', l1', e1', e2', e3'⟩
  all_goals first
    | exact absurd a' a
    | exact absurd a a'
    | exact absurd b' b
    | exact absurd b b'
    | exact absurd c' c
    | exact absurd c c'
    | (rw [e, e'])
    | exact e3.same e3' e1 e1' fun x => by rw [e2, e2']
theorem com_facts {Pa Pb : Int} (ha : 1 ≤ Pa) (hb : 1 ≤ Pb) : comP Pa Pb = Pa * (comN Pa Pb : Int) ∧ comP Pa Pb = Pb * (comM Pa Pb : Int) ∧ 1 ≤ comP Pa Pb ∧ Int.tdiv (comP Pa Pb) Pa = (comN Pa Pb : Int) ∧ Int.tdiv (comP Pa Pb) Pb = (comM Pa Pb : Int) ∧ (comN Pa Pb : Int) ≤ Pb ∧ (comM Pa Pb : Int) ≤ Pa := by
  obtain ⟨g, g1, hg, g2, g3, e1, e2, q1, q2, c1, c2⟩ := comP_parts ha hb
  obtain ⟨d1, d2⟩ := com_quo ha hb
  have n1 : (comN Pa Pb : Int) ≤ Pb := by
    have : comN Pa Pb ≤ Pb.toNat := Nat.div_le_self _ _
    omega
  have n2 : (comM Pa Pb : Int) ≤ Pa := by
    have : comM Pa Pb ≤ Pa.toNat := Nat.div_le_self _ _
    omega
  refine ⟨rfl, ?_, ?_, d2, d1, n1, n2⟩
  · rw [c2, Int.mul_comm]; unfold comM; rw [hg]
  · rw [c1]
    have : Pa * 1 ≤ Pa * ((Pb.toNat / g : Nat) : Int) := Int.mul_le_mul_of_nonneg_left (by omega) (by omega)
    omega
theorem psB_of {P m : Int} {l r : List Sp} (h : IsSp P m l r) {x : Int} (h1 : 0 ≤ x) (h2 : x < m) : memB r x = psB P l x := by
  rw [Bool.eq_iff_iff, memB_iff, psB_iff, h.mem]
  exact ⟨fun h => h.2.2, fun h => ⟨h1, h2, h⟩⟩
theorem comb_mem {rl : Bool → Bool → Bool} (h0 : rl false false = false) {Pa Pb m : Int} {la lb ra rb r : List Sp} (ha : IsSp Pa m la ra) (hb : IsSp Pb m lb rb) (hr : ∀ x, Mem r x ↔ R2 rl ra rb x = true) (x : Int) :
    Mem r x ↔ 0 ≤ x ∧ x < m ∧ rl (psB Pa la x) (psB Pb lb x) = true := by
  rw [hr]
  unfold R2
  by_cases hx : 0 ≤ x ∧ x < m
  · rw [psB_of ha hx.1 hx.2, psB_of hb hx.1 hx.2]
    exact ⟨fun h => ⟨hx.1, hx.2, h⟩, fun h => h.2.2⟩
  · have f : ∀ {P : Int} {l r : List Sp}, IsSp P m l r → memB r x = false := fun h => memB_false.2 fun hm => hx ⟨((h.mem x).1 hm).1, ((h.mem x).1 hm).2.1⟩
    rw [f ha, f hb, h0]
    exact ⟨(fun h => by cases h), fun h => absurd ⟨h.1, h.2.1⟩ hx⟩
theorem mul_bd {n : Nat} {k : Nat} (hn : (n : Int) ≤ 12622780800) (hk : k ≤ 2000) : ((n * k : Nat) : Int) ≤ 25245561600000 := by
  have : n * k ≤ 12622780800 * 2000 := Nat.mul_le_mul (by omega) hk
  omega
end
section
/-! the search -/
/-! membership -/
/-! complements -/
def IsNot (P : Int) (l : List Sp) (r : Int × List Sp × Int) : Prop :=
  (¬ VP P l ∧ r = (0, [], 1)) ∨ (VP P l ∧ ∃ l', Std P l' ∧ (∀ x, Mem l' x ↔ 0 ≤ x ∧ x < P ∧ ¬ Mem l x) ∧ l'.length ≤ 2 * l.length + 2 ∧ IsNF P l' r)
theorem IsNot.uniq {P : Int} {l : List Sp} {r r' : Int × List Sp × Int} (h : IsNot P l r) (h' : IsNot P l r') : r = r' := by
  rcases h with ⟨a, e⟩ | ⟨a, l1, e1, e2, _, e3⟩ <;> rcases h' with ⟨a', e'⟩ | ⟨a', l1', e1', e2', _, e3'⟩
  all_goals first
    | exact absurd a' a
    | exact absurd a a'
    | (rw [e, e'])
    | exact e3.same e3' e1 e1' fun x => by rw [e2, e2']
theorem full_can {P : Int} (hP : 1 ≤ P) : Can [((0 : Int), P)] := Can.one (by show (0 : Int) < P; omega)
theorem not_mem {P : Int} {l r : List Sp} (hr : ∀ x, Mem r x ↔ R2 rSub [((0 : Int), P)] l x = true) (x : Int) : Mem r x ↔ 0 ≤ x ∧ x < P ∧ ¬ Mem l x := by
  rw [hr]
  show (memB _ x && !memB _ x) = true ↔ _
  rw [Bool.and_eq_true, memB_iff, mem_one, Bool.not_eq_true', memB_false]
  exact and_assoc
/-! movement -/
def IsMv (P n : Int) (l : List Sp) (r : Int × List Sp × Int) : Prop :=
  (¬ VP P l ∧ r = (0, [], 1)) ∨ (VP P l ∧ ¬ (-4398046511104 ≤ n ∧ n ≤ 4398046511104) ∧ r = (0, [], 2)) ∨
  (VP P l ∧ (-4398046511104 ≤ n ∧ n ≤ 4398046511104) ∧ ∃ l', Std P l' ∧ (∀ x, Mem l' x ↔ 0 ≤ x ∧ x < P ∧ PS P l (x - n)) ∧ l'.length ≤ 4 * l.length + 1 ∧ r = if 2000 < l'.length then (0, [], 5) else (P, l', 0))
theorem IsMv.uniq {P n : Int} {l : List Sp} {r r' : Int × List Sp × Int} (h : IsMv P n l r) (h' : IsMv P n l r') : r = r' := by
  rcases h with ⟨a, e⟩ | ⟨a, b, e⟩ | ⟨a, b, l1, e1, e2, _, e⟩ <;> rcases h' with ⟨a', e'⟩ | ⟨a', b', e'⟩ | ⟨a', b', l1', e1', e2', _, e'⟩
  all_goals first
    | exact absurd a' a
    | exact absurd a a'
    | exact absurd b' b
    | exact absurd b b'
    | skip
  · rw [e, e']
  · rw [e, e']
  · have := can_unique e1.can e1'.can fun x => by rw [e2, e2']
    subst this
    rw [e, e']
theorem PS_mod {P : Int} {l : List Sp} (x : Int) : PS P l (x % P) ↔ PS P l x := by
  have h3 := Int.emod_add_mul_ediv x P
  have := PS_per (P := P) (l := l) (x % P) (x / P)
  rw [h3] at this
  exact this.symm
/-- the moved set -/
theorem mv_PS {P n : Int} {l l' : List Sp} (hP : 1 ≤ P) (hm : ∀ x, Mem l' x ↔ 0 ≤ x ∧ x < P ∧ PS P l (x - n)) (x : Int) : PS P l' x ↔ PS P l (x - n) := by
  have h1 := Int.emod_nonneg x (show P ≠ 0 by omega)
  have h2 := Int.emod_lt_of_pos x (show 0 < P by omega)
  have h3 := Int.emod_add_mul_ediv x P
  unfold PS
  rw [hm]
  have e : x - n = (x % P - n) + P * (x / P) := by omega
  have := PS_per (P := P) (l := l) (x % P - n) (x / P)
  rw [← e] at this
  exact ⟨fun h => this.2 h.2.2, fun h => ⟨h1, h2, this.1 h⟩⟩
theorem mv_best {P n : Int} {l l' : List Sp} (hP : 1 ≤ P) (hb : Best P l P) (hm : ∀ x, Mem l' x ↔ 0 ≤ x ∧ x < P ∧ PS P l (x - n)) : Best P l' P :=
  ⟨hP, Int.dvd_refl P, InvQ.self _ _, fun q h1 h2 h3 => hb.le q h1 h2 fun x => by
    have := h3 (x + n)
    rw [mv_PS hP hm, mv_PS hP hm, show x + n + q - n = x + q by omega, Int.add_sub_cancel] at this
    exact this⟩
theorem cutTo_self {P : Int} {l : List Sp} (h : Std P l) : cutTo P l = l := by
  refine can_unique (cutTo_can h.can) h.can fun x => ?_
  rw [cutTo_mem]
  exact ⟨fun h => h.1, fun hx => ⟨hx, (h.mem hx).2⟩⟩
end
end
section

theorem eq_self' (l : List Sp) (h : l.length ≤ 1000000) : m_slices_Equal std l l = some true := by rw [p_slices_Equal l l (by omega), dT rfl]

/-- the answers' lists are short -/
theorem IsNF.len {P : Int} {l : List Sp} {r : Int × List Sp × Int} (h : IsNF P l r) : r.2.1.length ≤ 2000 := by
  obtain ⟨d, hb, rfl⟩ := h
  split
  · simp
  · show (cutTo d l).length ≤ 2000; omega
theorem IsOf.len {P : Int} {l : List Sp} {r : Int × List Sp × Int} (h : IsOf P l r) : r.2.1.length ≤ 2000 := by
  unfold IsOf at h
  split at h
  · rw [h]; simp
  · split at h
    · rw [h]; simp
    · obtain ⟨a, a1, a2, _, a4⟩ := h
      exact a4.len
theorem IsComb.len {rl : Bool → Bool → Bool} {Pa Pb : Int} {la lb : List Sp} {r : Int × List Sp × Int} (h : IsComb rl Pa Pb la lb r) : r.2.1.length ≤ 2000 := by
  rcases h with ⟨a, e⟩ | ⟨a, b, e⟩ | ⟨a, b, c, e⟩ | ⟨a, b, c, l1, e1, e2, e3⟩
  · rw [e]; simp
  · rw [e]; simp
  · rw [e]; simp
  · exact e3.len
theorem IsNot.len {P : Int} {l : List Sp} {r : Int × List Sp × Int} (h : IsNot P l r) : r.2.1.length ≤ 2000 := by
  rcases h with ⟨a, e⟩ | ⟨a, l1, e1, e2, _, e3⟩
  · rw [e]; simp
  · exact e3.len
theorem IsMv.len {P n : Int} {l : List Sp} {r : Int × List Sp × Int} (h : IsMv P n l r) : r.2.1.length ≤ 2000 := by
  rcases h with ⟨a, e⟩ | ⟨a, b, e⟩ | ⟨a, b, l1, e1, e2, _, e⟩
  · rw [e]; simp
  · rw [e]; simp
  · rw [e]
    split
    · simp
    · show l1.length ≤ 2000; omega

theorem bsame (b : Bool) : (b == b) = true := by cases b <;> rfl
end
section

/-- a good answer: a valid set with the numbers for which f holds -/
structure Good2 (f : Int → Bool) (P : Int) (l : List Sp) (e : Int) : Prop where
  v : VP P l
  e0 : e = 0
  mem : ∀ x, psB P l x = f x
def Ans (f : Int → Bool) (r : Int × List Sp × Int) : Prop := r = (0, [], 5) ∨ r = (0, [], 9) ∨ Good2 f r.1 r.2.1 r.2.2
theorem psB_eq {P Q : Int} {l l' : List Sp} (h : ∀ x, PS P l x ↔ PS Q l' x) (x : Int) : psB P l x = psB Q l' x := by rw [Bool.eq_iff_iff, psB_iff, psB_iff]; exact h x
theorem IsNF.good {m : Int} {l' : List Sp} {r : Int × List Sp × Int} (h : IsNF m l' r) (hs : Std m l') (hm : m ≤ 12622780800) : r = (0, [], 5) ∨ Good2 (psB m l') r.1 r.2.1 r.2.2 := by
  obtain ⟨d, hb, rfl⟩ := h
  split
  · exact .inl rfl
  · rename_i hn
    have hd : d ≤ m := Int.le_of_dvd (by have := hs.p1; omega) hb.dvd
    exact .inr ⟨⟨norm_PV hs hb, by show d ≤ _; omega, by show (cutTo d l').length ≤ 2000; omega⟩, rfl, psB_eq (norm_PS hs hb)⟩
theorem psB_dvd {P m : Int} {l : List Sp} (h : P ∣ m) (x : Int) : psB P l (x % m) = psB P l x := by
  unfold psB
  rw [Int.emod_emod_of_dvd x h]
theorem IsComb.good {rl : Bool → Bool → Bool} {Pa Pb : Int} {la lb : List Sp} {r : Int × List Sp × Int} (h : IsComb rl Pa Pb la lb r) (va : VP Pa la) (vb : VP Pb lb) : Ans (fun x => rl (psB Pa la x) (psB Pb lb x)) r := by
  rcases h with ⟨a, e⟩ | ⟨a, b, e⟩ | ⟨a, b, c, e⟩ | ⟨a, b, c, l1, e1, e2, e3⟩
  · exact absurd ⟨va, vb⟩ a
  · exact .inr (.inl e)
  · exact .inl e
  · obtain ⟨f1, f2, f3, _⟩ := com_facts va.p1 vb.p1
    rcases e3.good e1 b with h | h
    · exact .inl h
    · refine .inr (.inr ⟨h.v, h.e0, fun x => (h.mem x).trans ?_⟩)
      have h1 := Int.emod_nonneg x (show comP Pa Pb ≠ 0 by omega)
      have h2 := Int.emod_lt_of_pos x (show 0 < comP Pa Pb by omega)
      have ea : psB Pa la (x % comP Pa Pb) = psB Pa la x := psB_dvd ⟨_, f1⟩ x
      have eb : psB Pb lb (x % comP Pa Pb) = psB Pb lb x := psB_dvd ⟨_, f2⟩ x
      rw [← ea, ← eb, Bool.eq_iff_iff]
      show memB l1 (x % comP Pa Pb) = true ↔ _
      rw [memB_iff, e2]
      exact ⟨fun h => h.2.2, fun h => ⟨h1, h2, h⟩⟩
theorem IsNot.good {P : Int} {l : List Sp} {r : Int × List Sp × Int} (h : IsNot P l r) (v : VP P l) : r = (0, [], 5) ∨ Good2 (fun x => !psB P l x) r.1 r.2.1 r.2.2 := by
  rcases h with ⟨a, e⟩ | ⟨a, l1, e1, e2, _, e3⟩
  · exact absurd v a
  · rcases e3.good e1 v.p2 with h | h
    · exact .inl h
    · refine .inr ⟨h.v, h.e0, fun x => (h.mem x).trans ?_⟩
      have p1 := v.p1
      have h1 := Int.emod_nonneg x (show P ≠ 0 by omega)
      have h2 := Int.emod_lt_of_pos x (show 0 < P by omega)
      rw [Bool.eq_iff_iff]
      show memB l1 (x % P) = true ↔ (!memB l (x % P)) = true
      rw [memB_iff, e2, Bool.not_eq_true', memB_false]
      exact ⟨fun h => h.2.2, fun h => ⟨h1, h2, h⟩⟩
theorem IsNot.short {P : Int} {l : List Sp} {r : Int × List Sp × Int} (h : IsNot P l r) (v : VP P l) (hl : l.length ≤ 900) : Good2 (fun x => !psB P l x) r.1 r.2.1 r.2.2 := by
  rcases h.good v with h1 | h1
  · exfalso
    rcases h with ⟨a, e⟩ | ⟨a, l1, e1, e2, e4, d, hb, e3⟩
    · exact absurd v a
    · rw [h1] at e3
      have := cutTo_len d l1
      rw [if_neg (by omega)] at e3
      injection e3 with _ e3
      injection e3 with _ e3
      cases e3
  · exact h1
theorem IsMv.short {P n : Int} {l : List Sp} {r : Int × List Sp × Int} (h : IsMv P n l r) (v : VP P l) (hn : -4398046511104 ≤ n ∧ n ≤ 4398046511104) (hl : l.length ≤ 400) : Good2 (fun x => psB P l (x - n)) r.1 r.2.1 r.2.2 := by
  rcases h with ⟨a, e⟩ | ⟨a, b, e⟩ | ⟨a, b, l1, e1, e2, e4, e⟩
  · exact absurd v a
  · exact absurd hn b
  · rw [if_neg (by omega)] at e
    subst e
    refine ⟨⟨⟨e1, mv_best v.p1 v.best e2⟩, v.p2, by show l1.length ≤ 2000; omega⟩, rfl, psB_eq' fun x => mv_PS v.p1 e2 x⟩
where psB_eq' {P : Int} {l l' : List Sp} {n : Int} (h : ∀ x, PS P l' x ↔ PS P l (x - n)) (x : Int) : psB P l' x = psB P l (x - n) := by rw [Bool.eq_iff_iff, psB_iff, psB_iff]; exact h x
/-- one set, one form -/
theorem Good2.same {f : Int → Bool} {P Q e e' : Int} {l l' : List Sp} (h : Good2 f P l e) (h' : Good2 f Q l' e') : P = Q ∧ l = l' :=
  PV.uniq h.v.toPV h'.v.toPV fun x => by rw [← psB_iff, ← psB_iff, h.mem, h'.mem]
theorem VP.good {P : Int} {l : List Sp} (v : VP P l) : Good2 (psB P l) P l 0 := ⟨v, rfl, fun _ => rfl⟩
theorem Good2.congr {f g : Int → Bool} {P e : Int} {l : List Sp} (h : Good2 f P l e) (hfg : ∀ x, f x = g x) : Good2 g P l e := ⟨h.v, h.e0, fun x => (h.mem x).trans (hfg x)⟩
/-- an empty list: the empty set -/
theorem Good2.empty {f : Int → Bool} {P e : Int} {l : List Sp} (h : Good2 f P l e) : l.length = 0 ↔ ∀ x, f x = false := by
  constructor
  · intro h0 x
    rw [← h.mem, List.eq_nil_of_length_eq_zero h0]; rfl
  · intro h0
    rcases Nat.eq_zero_or_pos l.length with h1 | h1
    · exact h1
    · have a := h.v.toStd.at h1
      have b := h0 (fr l 0)
      have p2 := h.v.p2
      rw [← h.mem] at b
      unfold psB at b
      rw [Int.emod_eq_of_lt a.1 (by omega)] at b
      exact absurd (mem_idx.2 ⟨0, h1, by omega, by omega⟩) (memB_false.1 b)

/-! Within -/
theorem IsComb.bad {rl : Bool → Bool → Bool} {Pa Pb : Int} {la lb : List Sp} {r : Int × List Sp × Int} (h : IsComb rl Pa Pb la lb r) (hv : ¬ (VP Pa la ∧ VP Pb lb)) : r = (0, [], 1) := by
  rcases h with ⟨a, e⟩ | ⟨a, b, e⟩ | ⟨a, b, c, e⟩ | ⟨a, b, c, l1, e1, e2, e3⟩
  · exact e
  · exact absurd a hv
  · exact absurd a hv
  · exact absurd a hv
end
section

/-- numbers near the ends -/
def Near (n : Nat) (L : List Int) : Prop := L.length ≤ n ∧ ∀ y ∈ L, -17592186044416 ≤ y ∧ y ≤ 17592186044416
theorem ans_if {f : Int → Bool} {P e : Int} {l : List Sp} (h : Ans f (P, l, e)) : (e == 0) = false ∨ ((e == 0) = true ∧ Good2 f P l e) := by
  rcases h with h | h | h
  · injection h with _ h; injection h with _ h; exact .inl (eF (by omega))
  · injection h with _ h; injection h with _ h; exact .inl (eF (by omega))
  · exact .inr ⟨eT h.e0, h⟩
/-! the laws of sets -/
theorem com_comm {a b : Int} (ha : 1 ≤ a) (hb : 1 ≤ b) : comP a b = comP b a := by
  obtain ⟨f1, f2, _⟩ := com_facts ha hb
  rw [f2]
  unfold comP comM
  rw [Nat.gcd_comm]
theorem IsComb.comm {Pa Pb : Int} {la lb : List Sp} {r : Int × List Sp × Int} (h : IsComb rOr Pa Pb la lb r) : IsComb rOr Pb Pa lb la r := by
  have hc : cnt Pa Pb la lb = cnt Pb Pa lb la := by unfold cnt comN comM; rw [Nat.gcd_comm, Nat.add_comm]
  rcases h with ⟨a, e⟩ | ⟨a, b, e⟩ | ⟨a, b, c, e⟩ | ⟨a, b, c, l1, e1, e2, e3⟩
  · exact .inl ⟨fun h => a ⟨h.2, h.1⟩, e⟩
  · rw [com_comm a.1.p1 a.2.p1] at b
    exact .inr (.inl ⟨⟨a.2, a.1⟩, b, e⟩)
  · rw [com_comm a.1.p1 a.2.p1] at b
    rw [hc] at c
    exact .inr (.inr (.inl ⟨⟨a.2, a.1⟩, b, c, e⟩))
  · rw [com_comm a.1.p1 a.2.p1] at b e1 e2 e3
    rw [hc] at c
    refine .inr (.inr (.inr ⟨⟨a.2, a.1⟩, b, c, l1, e1, fun x => ?_, e3⟩))
    rw [e2]
    unfold rOr
    rw [Bool.or_comm]
theorem Ans.congr {f g : Int → Bool} {r : Int × List Sp × Int} (h : Ans f r) (hfg : ∀ x, f x = g x) : Ans g r := h.imp id (.imp id fun h => h.congr hfg)
end
section

theorem meas_snoc (l : List Sp) (s : Sp) : meas (l ++ [s]) = meas l + (s.2 - s.1) := by
  induction l with
  | nil => simp [meas]
  | cons t l ih => simp only [List.cons_append, meas, ih]; omega
theorem rk_snoc (l : List Sp) (s : Sp) (x : Int) : rk (l ++ [s]) x = rk l x + rk1 s x := by
  induction l with
  | nil => simp [rk]
  | cons t l ih => simp only [List.cons_append, rk, ih]; omega
theorem meas_take {l : List Sp} (h : Can l) (hl : Line l) : ∀ i, i ≤ l.length → 0 ≤ meas (l.take i) ∧ meas (l.take i) ≤ 8796093022208 * (i : Int) := by
  intro i
  induction i with
  | zero => intro _; simp [meas]
  | succ i ih =>
    intro hi
    have h1 := ih (by omega)
    have h2 := h.ne' (show i < l.length by omega)
    have h3 := hl l[i] (List.getElem_mem (by omega))
    rw [list_fr l (show i < l.length by omega)] at h3
    rw [take_succ' l (by omega), meas_snoc]
    simp only [] at h3 ⊢
    omega
theorem rk1_eq {s : Sp} (hs : s.1 < s.2) (x : Int) : rk1 s x = if s.1 < x then mi s.2 x - s.1 else 0 := by
  have := mi_le s.2 x
  unfold rk1 ma
  by_cases h : s.1 < x
  · rw [if_pos h]; split <;> omega
  · rw [if_neg h]; split <;> omega
theorem rk1_bd {s : Sp} (hs : s.1 < s.2) (x : Int) : 0 ≤ rk1 s x ∧ rk1 s x ≤ s.2 - s.1 := by
  have := mi_le s.2 x
  rw [rk1_eq hs]
  split <;> omega
theorem rk_take {l : List Sp} (h : Can l) (x : Int) : ∀ i, i ≤ l.length → 0 ≤ rk (l.take i) x ∧ rk (l.take i) x ≤ meas (l.take i) := by
  intro i
  induction i with
  | zero => intro _; simp [meas, rk]
  | succ i ih =>
    intro hi
    have h1 := ih (by omega)
    have h2 := h.ne' (show i < l.length by omega)
    rw [take_succ' l (by omega), meas_snoc, rk_snoc]
    have := rk1_bd (s := (fr l i, tt l i)) h2 x
    simp only [] at this ⊢
    omega
theorem p_Measure_loop {l : List Sp} (h : Can l) (hl : Line l) (hn : l.length ≤ 2000) : loop (m_runs_Measure_L1 std l) (0, 0) = some (meas l) := by
  have hh := loop_to' (B := m_runs_Measure_L1 std l) (n := l.length) (fun i => (meas (l.take i), (i : Int))) (e := meas l) (by omega) (fun i hi => by
    have h1 := meas_take h hl i (by omega)
    have h2 := h.ne' hi
    have h3 := hl l[i] (List.getElem_mem hi)
    rw [list_fr l hi] at h3
    simp only [] at h3
    rw [m_runs_Measure_L1_eq]
    simp only [Int.toNat_natCast, fr_def, tt_def]
    refine bT (dT (by omega)) (gX (by omega) (gK hi (gI (by omega) (gI (by omega) (gI (by omega) ?_)))))
    rw [take_succ' l hi, meas_snoc]; rfl) (by
    rw [m_runs_Measure_L1_eq]
    refine bF (dF (by omega)) ?_
    simp only [List.take_length])
  exact hh
theorem p_runs_Measure {l : List Sp} (h : Can l) (hl : Line l) (hn : l.length ≤ 2000) : m_runs_Measure std l = some (meas l) := by
  rw [m_runs_Measure_eq, p_runs_Valid', dT hn, canB_iff.2 ⟨h, hl⟩]
  exact bB rfl (bF rfl (bB (p_Measure_loop h hl hn) rfl))
theorem Std.line {P : Int} {l : List Sp} (h : Std P l) (hP : P ≤ 12622780800) : Line l := fun s hs => by have := h.bd s hs; have := h.can.ne s hs; omega
theorem p_runs_Rank {l : List Sp} (h : Can l) (hl : Line l) (hn : l.length ≤ 2000) (x : Int) : m_runs_Rank std x l = some (rk l x) := by
  have hh := loop_to' (B := m_runs_Rank_L1 std l x) (n := l.length) (fun i => (rk (l.take i) x, (i : Int))) (e := rk l x) (by omega) (fun i hi => by
    have h1 := meas_take h hl i (by omega)
    have h2 := h.ne' hi
    have h3 := hl l[i] (List.getElem_mem hi)
    rw [list_fr l hi] at h3
    simp only [] at h3
    have h4 := rk_take h x i (by omega)
    have h5 := rk1_bd (s := (fr l i, tt l i)) h2 x
    have h6 := rk1_eq (s := (fr l i, tt l i)) h2 x
    simp only [] at h5 h6
    have h7 := mi_le (tt l i) x
    rw [m_runs_Rank_L1_eq]
    simp only [Int.toNat_natCast, fr_def, tt_def]
    refine bT (dT (by omega)) (gX (by omega) (gK hi (bB (v := rk (l.take (i + 1)) x) ?_ (gI (by omega) rfl))))
    rw [take_succ' l hi, rk_snoc]
    by_cases hc : fr l i < x
    · rw [if_pos hc] at h6
      refine bT (dT hc) (gI (by omega) (gI (by omega) (congrArg some ?_)))
      omega
    · rw [if_neg hc] at h6
      refine bF (dF hc) (congrArg some ?_)
      omega) (by
    rw [m_runs_Rank_L1_eq]
    refine bF (dF (by omega)) ?_
    simp only [List.take_length])
  rw [m_runs_Rank_eq, p_runs_Valid', dT hn, canB_iff.2 ⟨h, hl⟩]
  exact bB rfl (bF rfl (bB hh rfl))
theorem prod_bd {P M x : Int} (hP : 1 ≤ P) (h0 : 0 ≤ M) (hM : M ≤ P) (hx : -8796093022208 ≤ x) (hx2 : x ≤ 8796093022208) (hP2 : P ≤ 12622780800) : -8900000000000 ≤ x / P * M ∧ x / P * M ≤ 8900000000000 := by
  have h1 := Int.emod_add_mul_ediv x P
  have h2 := Int.emod_nonneg x (show P ≠ 0 by omega)
  have h3 := Int.emod_lt_of_pos x (show 0 < P by omega)
  obtain ⟨q, hq⟩ : ∃ q, x / P = q := ⟨_, rfl⟩
  rw [hq] at h1 ⊢
  rw [Int.mul_comm P q] at h1
  rcases Int.le_total 0 q with h | h
  · have a1 : q * M ≤ q * P := Int.mul_le_mul_of_nonneg_left hM h
    have a2 : 0 ≤ q * M := Int.mul_nonneg h h0
    omega
  · have a1 : q * P ≤ q * M := Int.mul_le_mul_of_nonpos_left h hM
    have a2 : q * M ≤ 0 := Int.mul_nonpos_of_nonpos_of_nonneg h h0
    omega
theorem p_periodic_below {P x : Int} {l : List Sp} (v : VP P l) (hx : -8796093022208 ≤ x) (hx2 : x ≤ 8796093022208) : m_periodic_below std P x l = some (bel P l x) := by
  have p1 := v.p1
  have p2 := v.p2
  have hl := v.toStd.line p2
  have hb := meas_bd v.toStd
  have m1 := Int.emod_nonneg x (show P ≠ 0 by omega)
  have m2 := Int.emod_lt_of_pos x (show 0 < P by omega)
  have hr := rk_bd v.toStd (x % P) m1
  have hpr := prod_bd p1 hb.1 hb.2 hx hx2 p2
  rw [m_periodic_below_eq]
  have hbel : bel P l x = x / P * meas l + rk l (x % P) := by unfold bel; rw [v.toStd.rkP]
  rw [hbel]
  exact bB (p_integer_Div x P (by omega) (by omega) p1 (by omega)) (bB (p_runs_Measure v.can hl v.n2) (gI (by omega) (bB (p_runs_Rank v.can hl v.n2 _) (gI (by omega) rfl))))
theorem bel_bd {P x : Int} {l : List Sp} (v : VP P l) (hx : -8796093022208 ≤ x) (hx2 : x ≤ 8796093022208) : -8920000000000 ≤ bel P l x ∧ bel P l x ≤ 8920000000000 := by
  have p1 := v.p1
  have p2 := v.p2
  have hb := meas_bd v.toStd
  have m1 := Int.emod_nonneg x (show P ≠ 0 by omega)
  have m2 := Int.emod_lt_of_pos x (show 0 < P by omega)
  have hr := rk_bd v.toStd (x % P) m1
  have hpr := prod_bd p1 hb.1 hb.2 hx hx2 p2
  unfold bel
  rw [v.toStd.rkP]
  omega
theorem p_periodic_Count {P a b : Int} {l : List Sp} (v : VP P l) (hs : -4398046511104 ≤ a ∧ b ≤ 4398046511104 ∧ a < b) : m_periodic_Count std P a b l = some (bel P l b - bel P l a, 0) := by
  have h1 := bel_bd v (x := a) (by omega) (by omega)
  have h2 := bel_bd v (x := b) (by omega) (by omega)
  rw [m_periodic_Count_eq, p_periodic_Valid, p_interval_Valid]
  exact bB (v := false) (bB rfl (bF (nF (pvB_t v)) (bB rfl (congrArg some (nF (svB_iff.2 hs)))))) (bF rfl (bB (p_periodic_below v (by omega) (by omega)) (bB (p_periodic_below v (by omega) (by omega)) (gI (by omega) rfl))))
theorem p_periodic_Count_bad {P a b : Int} {l : List Sp} (h : ¬ (VP P l ∧ (-4398046511104 ≤ a ∧ b ≤ 4398046511104 ∧ a < b))) : m_periodic_Count std P a b l = some (0, 1) := by
  rw [m_periodic_Count_eq, p_periodic_Valid, p_interval_Valid]
  refine bB (v := true) (bB rfl ?_) (bT rfl rfl)
  by_cases v : VP P l
  · exact bF (nF (pvB_t v)) (bB rfl (congrArg some (nT (svB_false.2 fun hs => h ⟨v, hs⟩))))
  · exact bT (nT (pvB_f v)) rfl

end
end Go.Proofs.Ytebkfbkgmbgobaa.Pe
