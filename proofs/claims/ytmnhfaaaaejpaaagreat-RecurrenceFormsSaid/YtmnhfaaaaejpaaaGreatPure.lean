/-
  Words for the plain law: one step of a model at a time. No program here.
-/
import Derived.Test.YtmnhfaaaaejpaaaGreatCalP
namespace Go.Proofs.YtmnhfaaaaejpaaaGreat
open Go.RowKit

section
variable {α β : Type} {k r : Option α}
theorem okI64 {x : Int} : okI .i64 x = decide (-9223372036854775808 ≤ x ∧ x ≤ 9223372036854775807) := by
  unfold okI
  rw [Bool.eq_iff_iff, decide_eq_true_iff, decide_eq_true_iff, IntKind.wrap_i64]
  omega
theorem okU64 {x : Int} : okI .u64 x = decide (0 ≤ x ∧ x ≤ 18446744073709551615) := by
  unfold okI
  rw [Bool.eq_iff_iff, decide_eq_true_iff, decide_eq_true_iff, IntKind.wrap_u64]
  omega
theorem gI {x : Int} (h1 : -9223372036854775808 ≤ x ∧ x ≤ 9223372036854775807) (h : k = r) : grd (okI .i64 x) k = r := by rw [okI64, decide_eq_true h1]; exact h
theorem gU {x : Int} (h1 : 0 ≤ x ∧ x ≤ 18446744073709551615) (h : k = r) : grd (okI .u64 x) k = r := by rw [okU64, decide_eq_true h1]; exact h
theorem gX {i : Int} {n : Nat} (h1 : 0 ≤ i ∧ i < (n : Int)) (h : k = r) : grd (okIdx i n) k = r := by rw [okIdx, decide_eq_true h1]; exact h
theorem gK {i n : Nat} (h1 : i < n) (h : k = r) : grd (okKin i n) k = r := by rw [okKin, decide_eq_true h1]; exact h
theorem gZ {x : Int} (h1 : x ≠ 0) (h : k = r) : grd (okNz x) k = r := by rw [okNz, decide_eq_true h1]; exact h
theorem gR {n : Nat} (h1 : n ≤ 1099511627776) (h : k = r) : grd (okRoom n) k = r := by rw [okRoom, decide_eq_true h1]; exact h
theorem gG {i : Int} {n : Nat} (h1 : 0 ≤ i ∧ i ≤ (n : Int)) (h : k = r) : grd (okRng i n) k = r := by rw [okRng, decide_eq_true h1]; exact h
theorem bT {c : Bool} {k' : Option α} (h1 : c = true) (h : k = r) : (bif c then k else k') = r := by rw [h1]; exact h
theorem bF {c : Bool} {k' : Option α} (h1 : c = false) (h : k' = r) : (bif c then k else k') = r := by rw [h1]; exact h
theorem bB {x : Option β} {f : β → Option α} {v : β} (h1 : x = some v) (h : f v = r) : Option.bind x f = r := by rw [h1]; exact h
/-- a test that comes to one value -/
theorem bO {a _b : Bool} {k' : Option α} (h : (a = true → k = r) ∧ (a = false → k' = r)) : (bif a then k else k') = r := by cases a <;> simp_all
end
theorem dT {p : Prop} [Decidable p] (h : p) : decide p = true := decide_eq_true h
theorem dF {p : Prop} [Decidable p] (h : ¬ p) : decide p = false := decide_eq_false h
theorem eT {a b : Int} (h : a = b) : (a == b) = true := by simpa using h
theorem eF {a b : Int} (h : a ≠ b) : (a == b) = false := by simpa using h
theorem nT {a : Bool} (h : a = false) : (!a) = true := by simp [h]
theorem nF {a : Bool} (h : a = true) : (!a) = false := by simp [h]

section
variable {σ ε : Type}
/-- a loop that counts a number up to a bound, with a state that is known at each number -/
theorem loop_up {B : Int × σ → Option ((Int × σ) ⊕ ε)} {n : Nat} (f : Nat → σ) {e : ε} (hn : n < 1180591620717411303424) (hs : ∀ i, i < n → B ((i : Int), f i) = some (.inl (((i + 1 : Nat) : Int), f (i + 1)))) (he : B ((n : Int), f n) = some (.inr e)) : loop B (0, f 0) = some e := by
  have key : ∀ (j : Nat), j ≤ n → ∀ m, n - j < m → iter B m ((j : Int), f j) = some e := by
    intro j hj
    induction hk : n - j generalizing j with
    | zero =>
      intro m hm
      have : j = n := by omega
      subst this
      obtain ⟨m, rfl⟩ : ∃ m', m = m' + 1 := ⟨m - 1, by omega⟩
      unfold iter; rw [he]
    | succ d ih =>
      intro m hm
      obtain ⟨m, rfl⟩ : ∃ m', m = m' + 1 := ⟨m - 1, by omega⟩
      unfold iter; rw [hs j (by omega)]
      exact ih (j + 1) (by omega) (by omega) m (by omega)
  exact key 0 (Nat.zero_le _) _ hn
/-- the same, that may stop before -/
theorem loop_to' {B : σ → Option (σ ⊕ ε)} {n : Nat} (f : Nat → σ) {e : ε} (hn : n < 1180591620717411303424) (hs : ∀ i, i < n → B (f i) = some (.inl (f (i + 1)))) (he : B (f n) = some (.inr e)) : loop B (f 0) = some e := by
  have key : ∀ (j : Nat), j ≤ n → ∀ m, n - j < m → iter B m (f j) = some e := by
    intro j hj
    induction hk : n - j generalizing j with
    | zero =>
      intro m hm
      have : j = n := by omega
      subst this
      obtain ⟨m, rfl⟩ : ∃ m', m = m' + 1 := ⟨m - 1, by omega⟩
      unfold iter; rw [he]
    | succ d ih =>
      intro m hm
      obtain ⟨m, rfl⟩ : ∃ m', m = m' + 1 := ⟨m - 1, by omega⟩
      unfold iter; rw [hs j (by omega)]
      exact ih (j + 1) (by omega) (by omega) m (by omega)
  exact key 0 (Nat.zero_le _) _ hn
end
/-- the first place at which a test holds, if any -/
theorem first_or (p : Nat → Bool) (n : Nat) : (∀ i, i < n → p i = true) ∨ ∃ k, k < n ∧ p k = false ∧ ∀ i, i < k → p i = true := by
  induction n with
  | zero => exact .inl (fun i h => by omega)
  | succ n ih =>
    rcases ih with h | ⟨k, h1, h2, h3⟩
    · cases hp : p n with
      | true => exact .inl (fun i hi => by rcases Nat.lt_or_ge i n with h4 | h4
                                           · exact h i h4
                                           · have : i = n := by omega
                                             subst this; exact hp)
      | false => exact .inr ⟨n, by omega, hp, h⟩
    · exact .inr ⟨k, by omega, h2, h3⟩
end Go.Proofs.YtmnhfaaaaejpaaaGreat
