/-
  A list that is repeated over a multiple of its period, its spans moved by multiples of that: the same set. No program here.
-/
import Derived.Test.YtlpbdikmhngmfaaHP
namespace Go.Proofs.Ytlpbdikmhngmfaa

def repA (P : Int) (n : Nat) (sh : Nat → Int) (i j : Nat) : Int := (i : Int) * P + sh j * (n : Int) * P
def repS (P : Int) (n : Nat) (l : List Sp) (sh : Nat → Int) (i j : Nat) : Sp := (repA P n sh i j + fr l j, repA P n sh i j + tt l j)

theorem rep_memF {P : Int} {l L : List Sp} {n : Nat} (v : Std P l) (hn : 1 ≤ n) {sh : Nat → Int} (hL : ∀ s, s ∈ L ↔ ∃ i j, i < n ∧ j < l.length ∧ s = repS P n l sh i j) (x : Int) :
    MemF ((n : Int) * P) L x ↔ 0 ≤ x ∧ x < (n : Int) * P ∧ PS P l x := by
  have hP := v.p1
  have hnP : 1 ≤ (n : Int) * P := by
    have : (1 : Int) * 1 ≤ (n : Int) * P := Int.mul_le_mul (by omega) hP (by omega) (by omega)
    omega
  have hd : P ∣ (n : Int) * P := ⟨n, Int.mul_comm _ _⟩
  have hat : ∀ i j, repA P n sh i j = P * ((i : Int) + sh j * (n : Int)) := fun i j => by
    unfold repA
    rw [Int.mul_add, Int.mul_comm P (i : Int), Int.mul_comm P]
  constructor
  · rintro ⟨s, hs, y, h1, h2, h3⟩
    obtain ⟨i, j, hi, hj, rfl⟩ := (hL s).1 hs
    have hx0 : 0 ≤ x := by rw [← h3]; exact Int.emod_nonneg _ (by omega)
    have hx1 : x < (n : Int) * P := by rw [← h3]; exact Int.emod_lt_of_pos _ (by omega)
    refine ⟨hx0, hx1, ?_⟩
    have a1 : repA P n sh i j + fr l j ≤ y := h1
    have a2 : y < repA P n sh i j + tt l j := h2
    have b : 0 ≤ fr l j ∧ fr l j < tt l j ∧ tt l j ≤ P := by
      have hs : (fr l j, tt l j) ∈ l := by
        have : l.getD j (0, 0) ∈ l := by rw [List.getD_eq_getElem?_getD, List.getElem?_eq_getElem hj]; exact List.getElem_mem hj
        exact this
      have h1 := v.bd _ hs
      have h2 := v.can.ne _ hs
      simp only [] at h1 h2
      omega
    have e1 : x % P = y - repA P n sh i j := by
      rw [← h3, Int.emod_emod_of_dvd _ hd]
      have e2 : y = (y - repA P n sh i j) + P * ((i : Int) + sh j * (n : Int)) := by rw [← hat]; omega
      have e3 : ((y - repA P n sh i j) + P * ((i : Int) + sh j * (n : Int))) % P = y - repA P n sh i j := by
        rw [Int.add_mul_emod_self_left]
        exact Int.emod_eq_of_lt (by omega) (by omega)
      rw [← e2] at e3
      exact e3
    unfold PS
    rw [e1]
    exact mem_idx.2 ⟨j, hj, by omega, by omega⟩
  · rintro ⟨hx0, hx1, hm⟩
    obtain ⟨j, hj, h1, h2⟩ := mem_idx.1 hm
    have hq0 : 0 ≤ x / P := Int.ediv_nonneg hx0 (by omega)
    have hq1 : x / P < n := Int.ediv_lt_of_lt_mul (by omega) hx1
    obtain ⟨i, hi⟩ := Int.eq_ofNat_of_zero_le hq0
    have hdm := Int.mul_ediv_add_emod x P
    rw [hi] at hdm
    have hc : P * (i : Int) = (i : Int) * P := Int.mul_comm _ _
    refine ⟨_, (hL _).2 ⟨i, j, by omega, hj, rfl⟩, x + sh j * (n : Int) * P, ?_, ?_, ?_⟩
    · show repA P n sh i j + fr l j ≤ _
      unfold repA
      omega
    · show _ < repA P n sh i j + tt l j
      unfold repA
      omega
    · rw [Int.mul_assoc, Int.add_mul_emod_self_right]
      exact Int.emod_eq_of_lt hx0 hx1

theorem rep_PS {P m : Int} {l l' : List Sp} (hd : P ∣ m) (hm1 : 1 ≤ m) (hm : ∀ x, Mem l' x ↔ 0 ≤ x ∧ x < m ∧ PS P l x) (x : Int) : PS m l' x ↔ PS P l x := by
  unfold PS
  rw [hm]
  unfold PS
  rw [Int.emod_emod_of_dvd _ hd]
  exact ⟨fun h => h.2.2, fun h => ⟨Int.emod_nonneg _ (by omega), Int.emod_lt_of_pos _ (by omega), h⟩⟩
end Go.Proofs.Ytlpbdikmhngmfaa
