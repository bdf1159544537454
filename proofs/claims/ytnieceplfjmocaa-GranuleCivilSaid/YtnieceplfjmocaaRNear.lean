/-
  The reference's Near and Find.
-/
import Derived.Test.YtnieceplfjmocaaFind
namespace Go.Proofs.Ytnieceplfjmocaa
open Go.RowKit Go.BigFrame

theorem rline_at {x : Int} {v : Bool} (w : World) (hv : lineB x = v) :
    Calls Try.prog 43 #[.int .i64 x] w fun e w' => e = .returned (.bool v) ∧ w = w' := hv ▸ rline_any x w

set_option maxHeartbeats 2000000 in
theorem rnear_no (o p x : Int) (A : Option Addr) (c : Nat) (l : List Sp) (w : World) (h : SpsR w A l) (hn : l.length ≤ maxLen) (hv : validB o p l = false ∨ lineB x = false) :
    Calls Try.prog 32 #[.agg #[.int .i64 o, .int .i64 p, .slice A l.length c], .int .i64 x] w fun e w' => e = .returned (.int .i64 0) ∧ Below w.heap.size w w' := by
  have HN := Lib.hid hn
  have hW := (Below.refl w.heap.size w).alloc (Nat.le_refl _) (.cells #[.int .i64 o, .int .i64 p, .slice A l.length c] 24)
  have HS := Lib.hid (h.below hW)
  have HW := Lib.hid hW
  clear h hW hn
  cases hvv : validB o p l with
  | false =>
    have HV := Lib.hid hvv
    clear hvv hv
    go_enter Try.func32, Try.ntmps32
    go_wp2_with (go_at_call 20; refine (rvalidC_at _ HS.out HN.out HV.out).mono ?_; rintro e w1 ⟨rfl, hb1⟩)
    go_ret
    exact ⟨rfl, below_next HW.out hb1⟩
  | true =>
    have hl : lineB x = false := by
      rcases hv with h | h
      · rw [hvv] at h; cases h
      · exact h
    have HV := Lib.hid hvv
    have HL := Lib.hid hl
    clear hvv hv hl
    go_enter Try.func32, Try.ntmps32
    go_wp2_with (first | (go_at_call 20; refine (rvalidC_at _ HS.out HN.out HV.out).mono ?_; rintro e w1 ⟨rfl, hb1⟩) | (go_at_call 43; refine (rline_at _ HL.out).mono ?_; rintro e w' ⟨rfl, rfl⟩))
    go_ret
    exact ⟨rfl, below_next HW.out hb1⟩

theorem lastTo_step {l : List Sp} {r : Int} {i : Nat} : lastTo l r (i + 1) = if fr l i ≤ r then i else lastTo l r i := rfl

set_option maxHeartbeats 4000000 in
theorem rnear_yes (o p x : Int) (A : Option Addr) (c : Nat) (l : List Sp) (w : World) (h : SpsR w A l) (hv : validB o p l = true) (hl : lineB x = true) :
    Calls Try.prog 32 #[.agg #[.int .i64 o, .int .i64 p, .slice A l.length c], .int .i64 x] w fun e w' => e = .returned (.int .i64 (nearN o p l x)) ∧ Below w.heap.size w w' := by
  have VD := Vd.of hv
  have hn5 := VD.n5
  have hn0 := VD.n0
  have p1 := VD.p1
  have p2 := VD.p2
  have o1 := VD.o1
  have o2 := VD.o2
  have hx := lineB_iff.1 hl
  obtain ⟨x1, x2⟩ := hx
  obtain ⟨q1, q2, q3, q4, q5, q6, q7⟩ := near_q VD x1 x2
  have m1 : (l.length : Int) * ((x - o) / p) ≤ (l.length : Int) * 6597069766656 := Int.mul_le_mul_of_nonneg_left q2 (by omega)
  have m2 : (l.length : Int) * -6597069766656 ≤ (l.length : Int) * ((x - o) / p) := Int.mul_le_mul_of_nonneg_left q1 (by omega)
  have m3 : (l.length : Int) * ((x - o) / p) ≤ 32985348833280000 := by omega
  have m4 : -32985348833280000 ≤ (l.length : Int) * ((x - o) / p) := by omega
  obtain ⟨b, o', rfl, hc⟩ := h hn0
  have HV := Lib.hid hv
  have HN := Lib.hid (show l.length ≤ maxLen by simp only [maxLen]; omega)
  have HL := Lib.hid hl
  have hW := (Below.refl w.heap.size w).alloc (Nat.le_refl _) (.cells #[.int .i64 o, .int .i64 p, .slice (some ⟨b, o', none⟩) l.length c] 24)
  have hB := Blk.new w 24 #[.int .i64 o, .int .i64 p, .slice (some ⟨b, o', none⟩) l.length c]
  have HS := Lib.hid (h.below hW)
  have HC := Lib.hid hc
  have HW := Lib.hid hW
  have HB := Lib.hid hB
  obtain ⟨q, hq⟩ : ∃ q, (x - o) / p = q := ⟨_, rfl⟩
  obtain ⟨r, hr⟩ : ∃ r, (x - o) % p = r := ⟨_, rfl⟩
  have HR := Lib.hid (show nearN o p l x = (l.length : Int) * q + (lastTo l r l.length : Int) by rw [← hq, ← hr]; rfl)
  have hltn := lastTo_lt (l := l) (r := r) l.length hn0
  rw [hr] at q5 q6 q7
  rw [hq] at q1 q2 q3 q4 q5 m3 m4
  have hqr : x - o - q * p = r := by rw [Int.mul_comm]; omega
  have q3' : -6597069766656 ≤ q * p + p := by rw [Int.mul_comm]; exact q3
  have q4' : q * p ≤ 6597069766656 := by rw [Int.mul_comm]; exact q4
  clear h hv hl hc hW hB VD m1 m2 q5 hr q3 q4
  go_enter Try.func32, Try.ntmps32
  go_wp2_with (first | (go_at_call 20; refine (rvalidC_at _ HS.out HN.out HV.out).mono ?_; rintro e w1 ⟨rfl, hb1⟩; have hB1 := HB.out.below hb1; have g0 := hB1.cell 0; have g1 := hB1.cell 1; have g2 := hB1.cell 2; simp at g0 g1 g2) | (go_at_call 43; refine (rline_at _ HL.out).mono ?_; rintro e w' ⟨rfl, rfl⟩) | (go_at_call 58; refine (calls_b (rfloor_any _ _ _ (by omega) (by omega) (by omega) (by omega))).mono ?_; rintro e w2 ⟨rfl, hb2⟩; rw [hq]; clear g0 g1 g2; have hB2 := hB1.below hb2; have g0 := hB2.cell 0; have g1 := hB2.cell 1; have g2 := hB2.cell 2; have hlt := hB2.lt; simp at g0 g1 g2))
  have hb12 := below_next (below_next HW.out hb1) hb2
  have HB12 := Lib.hid hb12
  go_loop [8, 9] (fun k i => ∃ j : Nat, j ≤ l.length ∧ i = .int .i64 j ∧ k = .int .i64 (lastTo l r j)) (fun _ i => l.length - (intOf i).toNat)
  case atStart => exact ⟨0, by omega, rfl, rfl⟩
  case round =>
    obtain ⟨j, hj, rfl, rfl⟩ := hrel
    by_cases hlt' : j < l.length
    · have cj := old_cell HB12.out (HC.out j hlt').1
      by_cases hle : fr l j ≤ r
      · have HE := Lib.hid (show lastTo l r (j + 1) = j by rw [lastTo_step, if_pos hle])
        go_wp2
        go_round
        case rel => exact ⟨j + 1, by omega, by go_num, by rw [HE.out]⟩
        case measure => simp [intOf]; omega
      · have HE := Lib.hid (show lastTo l r (j + 1) = lastTo l r j by rw [lastTo_step, if_neg hle])
        go_wp2
        go_round
        case rel => exact ⟨j + 1, by omega, by go_num, by rw [HE.out]⟩
        case measure => simp [intOf]; omega
    · have hje : j = l.length := by omega
      subst hje
      go_wp2
      go_ret
      exact ⟨ret_int HR.out.symm, HB12.out⟩

theorem rnear_any (o p x : Int) (A : Option Addr) (c : Nat) (l : List Sp) (w : World) (h : SpsR w A l) (hn : l.length ≤ maxLen) :
    Calls Try.prog 32 #[.agg #[.int .i64 o, .int .i64 p, .slice A l.length c], .int .i64 x] w fun e w' => e = .returned (.int .i64 (nearR o p l x)) ∧ Below w.heap.size w w' := by
  by_cases hv : validB o p l = true
  · by_cases hl : lineB x = true
    · rw [nearR, hv, hl]; exact rnear_yes o p x A c l w h hv hl
    · have : lineB x = false := by simpa using hl
      rw [nearR, hv, this]; exact rnear_no o p x A c l w h hn (.inr this)
  · have : validB o p l = false := by simpa using hv
    rw [nearR, this]; exact rnear_no o p x A c l w h hn (.inl this)
end Go.Proofs.Ytnieceplfjmocaa
