/-
  granule.least: the least number of spans that describe the same sequence; the reference's repeats and least.
-/
import Derived.Test.YtnieceplfjmocaaIv
import Derived.Test.YtnieceplfjmocaaEql
namespace Go.Proofs.Ytnieceplfjmocaa
open Go.RowKit Go.BigFrame

/-- span i+m is span i, d further on -/
def eqAt (d : Int) (l : List Sp) (m i : Nat) : Bool := fr l (i + m) == fr l i + d && tt l (i + m) == tt l i + d
/-- the list is the one of its first m spans, repeated -/
def repM (p : Int) (l : List Sp) (m : Nat) : Bool :=
  l.length % m == 0 && (p % ((l.length / m : Nat) : Int) == 0 && (List.range (l.length - m)).all (eqAt (p / ((l.length / m : Nat) : Int)) l m))
def leastN (p : Int) (l : List Sp) : Nat := (((List.range l.length).find? fun j => repM p l (j + 1)).map (· + 1)).getD l.length

theorem leastN_at {p : Int} {l : List Sp} {m : Nat} (h1 : 1 ≤ m) (h2 : m ≤ l.length) (h3 : repM p l m = true) (h4 : ∀ j, j < m → 1 ≤ j → repM p l j = false) : leastN p l = m := by
  have : (List.range l.length).find? (fun j => repM p l (j + 1)) = some (m - 1) := by
    rw [List.find?_range_eq_some]
    refine ⟨by rw [Nat.sub_add_cancel h1]; exact h3, by simp; omega, fun j hj => ?_⟩
    simp [h4 (j + 1) (by omega) (by omega)]
  simp [leastN, this]; omega

theorem repM_self {p : Int} {l : List Sp} (h : 0 < l.length) : repM p l l.length = true := by
  simp [repM, Nat.div_self h]

theorem repM_f1 {p : Int} {l : List Sp} {m : Nat} (h : ¬ l.length % m = 0) : repM p l m = false := by simp [repM, h]
theorem repM_f2 {p : Int} {l : List Sp} {m : Nat} (h : ¬ p % ((l.length / m : Nat) : Int) = 0) : repM p l m = false := by
  simp [repM]; intro _ h'; exact absurd h' (by simpa using h)
theorem repM_f3 {p : Int} {l : List Sp} {m i : Nat} (hi : i + m < l.length) (h : eqAt (p / ((l.length / m : Nat) : Int)) l m i = false) : repM p l m = false := by
  simp only [repM, Bool.and_eq_false_iff]
  right; right; rw [List.all_eq_false]; exact ⟨i, by simp; omega, by rw [h]; simp⟩
theorem repM_t {p : Int} {l : List Sp} {m : Nat} (h1 : l.length % m = 0) (h2 : p % ((l.length / m : Nat) : Int) = 0) (h3 : ∀ i, i < l.length - m → eqAt (p / ((l.length / m : Nat) : Int)) l m i = true) : repM p l m = true := by
  have : (List.range (l.length - m)).all (eqAt (p / ((l.length / m : Nat) : Int)) l m) = true := by
    rw [List.all_eq_true]; intro i hi; exact h3 i (by simpa using hi)
  simp only [repM, this, h1, h2]; rfl

theorem leastN_spec {p : Int} {l : List Sp} (h0 : 0 < l.length) : 1 ≤ leastN p l ∧ leastN p l ≤ l.length ∧ repM p l (leastN p l) = true ∧ ∀ j, j < leastN p l → 1 ≤ j → repM p l j = false := by
  unfold leastN
  cases hf : (List.range l.length).find? fun j => repM p l (j + 1) with
  | none =>
    rw [List.find?_eq_none] at hf
    have := hf (l.length - 1) (by simp; omega)
    rw [Nat.sub_add_cancel h0] at this
    exact absurd (repM_self h0) this
  | some i =>
    rw [List.find?_range_eq_some] at hf
    obtain ⟨h1, h2, h3⟩ := hf
    have hi : i < l.length := by simpa using h2
    simp only [Option.map_some, Option.getD_some]
    refine ⟨by omega, by omega, h1, fun j hj hj1 => ?_⟩
    have := h3 (j - 1) (by omega)
    rw [Nat.sub_add_cancel hj1] at this
    simpa using this
theorem repM_parts {p : Int} {l : List Sp} {m : Nat} (h : repM p l m = true) : l.length % m = 0 ∧ p % ((l.length / m : Nat) : Int) = 0 ∧ ∀ i, i + m < l.length → eqAt (p / ((l.length / m : Nat) : Int)) l m i = true := by
  simp only [repM, Bool.and_eq_true, List.all_eq_true, List.mem_range, beq_iff_eq] at h
  exact ⟨h.1, h.2.1, fun i hi => h.2.2 i (by omega)⟩

/-- the ends are small enough to add a period -/
def BdS (l : List Sp) : Prop := ∀ k, k < l.length → -1152921504606846976 ≤ fr l k ∧ fr l k ≤ 1152921504606846976 ∧ -1152921504606846976 ≤ tt l k ∧ tt l k ≤ 1152921504606846976

attribute [local go_sem ↓] eql_span

set_option maxHeartbeats 1000000 in
theorem least_any (A : Option Addr) (c : Nat) (l : List Sp) (p : Int) (w : World) (h : SpsR w A l) (hn : l.length ≤ maxLen) (h0 : 0 < l.length) (hp : 1 ≤ p) (hp2 : p ≤ 12622780800) (hbd : BdS l) :
    Calls Try.prog 49 #[.int .i64 p, .slice A l.length c] w fun e w' => e = .returned (.int .i64 (leastN p l)) ∧ ∃ q, w' = w.drewN q := by
  unfold maxLen at hn
  obtain ⟨b, o, rfl, hc⟩ := h h0
  clear h
  have HB := Lib.hid hbd
  have HC := Lib.hid hc
  clear hbd hc
  go_enter Try.func49, Try.ntmps49
  go_wp2
  go_loopw [6] (fun x wr => ∃ m : Nat, 1 ≤ m ∧ m ≤ l.length ∧ x = .int .i64 m ∧ (∀ j, j < m → 1 ≤ j → repM p l j = false) ∧ ∃ q, wr = w.drewN q) (fun x _ => l.length - (intOf x).toNat)
  case atStart => exact ⟨1, by omega, by omega, rfl, by omega, 0, rfl⟩
  case round =>
    obtain ⟨m, hm1, hm2, rfl, hj, q, rfl⟩ := hrel
    have HJ := Lib.hid hj
    clear hj
    by_cases hlt : m < l.length
    · have hq1 : (1 : Int) ≤ (l.length : Int) / (m : Int) := by
        apply Int.le_ediv_of_mul_le <;> omega
      have hq2 : (l.length : Int) / (m : Int) ≤ l.length := Int.ediv_le_self _ (by omega)
      have hcast : ((l.length / m : Nat) : Int) = (l.length : Int) / (m : Int) := by simp
      by_cases hr : l.length % m = 0
      · have hr1 : ((l.length : Int) % (m : Int) != 0) = false := by simp; omega
        by_cases hp1 : p % ((l.length / m : Nat) : Int) = 0
        · have hp3 : (p % ((l.length : Int) / (m : Int)) != 0) = false := by rw [← hcast]; simpa using hp1
          have hd1 : 0 ≤ p / ((l.length : Int) / (m : Int)) := Int.ediv_nonneg (by omega) (by omega)
          have hd2 : p / ((l.length : Int) / (m : Int)) ≤ p := Int.ediv_le_self _ (by omega)
          go_wp2
          obtain ⟨w0, hw0⟩ : ∃ w0, w0 = w.drewN q := ⟨_, rfl⟩
          go_loopw [8, 9] (fun s x wr => ∃ (i : Nat) (sm : Bool), i + m ≤ l.length ∧ s = .bool sm ∧ x = .int .i64 i ∧ (sm = true → ∀ j, j < i → eqAt (p / ((l.length / m : Nat) : Int)) l m j = true) ∧ (sm = false → ∃ j, j + m < l.length ∧ eqAt (p / ((l.length / m : Nat) : Int)) l m j = false) ∧ ∃ q, wr = w.drewN q) (fun s x _ => l.length - (intOf x).toNat)
          case atStart => exact ⟨0, true, by omega, rfl, rfl, by omega, by simp, q, rfl⟩
          case round =>
            obtain ⟨i, sm, him, rfl, rfl, ht, hf, q1, rfl⟩ := hrel
            have HT := Lib.hid ht
            have HF := Lib.hid hf
            clear ht hf
            by_cases hi : i + m < l.length
            · cases sm
              · obtain ⟨j, hj1, hj2⟩ := HF.out (by simp)
                have HR := Lib.hid (repM_f3 hj1 hj2)
                clear hj1 hj2
                go_wp2
                go_roundw
                case rel => exact ⟨m + 1, by omega, by omega, by go_num, allLt_succ HJ.out (fun _ => HR.out), _, rfl⟩
                case measure => simp [intOf]; omega
              · obtain ⟨c1, c2⟩ := HC.out (i + m) hi
                obtain ⟨c3, c4⟩ := HC.out i (by omega)
                obtain ⟨b1, b2, b3, b4⟩ := HB.out i (by omega)
                go_wp2
                go_quiet (fail)
                clear c1 c2 c3 c4 b1 b2 b3 b4
                go_wp2
                go_roundw
                case rel =>
                  refine ⟨i + 1, eqAt (p / ((l.length / m : Nat) : Int)) l m i, by omega, by simp [eqAt, hcast], by go_num, ?_, fun h => ⟨i, hi, h⟩, _, rfl⟩
                  intro h
                  exact allLt_succ (p := fun j => eqAt (p / ((l.length / m : Nat) : Int)) l m j = true) (HT.out (by simp)) h
                case measure => simp [intOf]; omega
            · have hie : i = l.length - m := by omega
              cases sm
              · obtain ⟨j, hj1, hj2⟩ := HF.out (by simp)
                have HR := Lib.hid (repM_f3 hj1 hj2)
                clear hj1 hj2 hie
                go_wp2
                go_roundw
                case rel => exact ⟨m + 1, by omega, by omega, by go_num, allLt_succ HJ.out (fun _ => HR.out), _, rfl⟩
                case measure => simp [intOf]; omega
              · have HR := Lib.hid (leastN_at hm1 hm2 (repM_t hr hp1 (fun j hj => HT.out (by simp) j (by omega))) HJ.out)
                clear hie
                go_wp2
                go_ret
                exact ⟨ret_int (by rw [HR.out]), _, rfl⟩
        · have hp3 : (p % ((l.length : Int) / (m : Int)) != 0) = true := by rw [← hcast]; simpa using hp1
          have HR := Lib.hid (repM_f2 hp1)
          go_wp2
          go_roundw
          case rel => exact ⟨m + 1, by omega, by omega, by go_num, allLt_succ HJ.out (fun _ => HR.out), _, rfl⟩
          case measure => simp [intOf]; omega
      · have hr1 : ((l.length : Int) % (m : Int) != 0) = true := by simp; omega
        have HR := Lib.hid (repM_f1 (p := p) hr)
        go_wp2
        go_roundw
        case rel => exact ⟨m + 1, by omega, by omega, by go_num, allLt_succ HJ.out (fun _ => HR.out), _, rfl⟩
        case measure => simp [intOf]; omega
    · have hme : m = l.length := by omega
      have HR := Lib.hid (leastN_at hm1 hm2 (by rw [hme]; exact repM_self h0) HJ.out)
      have HM := Lib.hid hme
      clear hme
      go_wp2
      go_ret
      exact ⟨ret_int (by rw [HR.out, HM.out]), _, rfl⟩
end Go.Proofs.Ytnieceplfjmocaa
