/-
  The reference's Find.
-/
import Derived.Test.YtnieceplfjmocaaRNear
namespace Go.Proofs.Ytnieceplfjmocaa
open Go.RowKit Go.BigFrame

set_option maxHeartbeats 2000000 in
theorem rfind_no (o p x : Int) (A : Option Addr) (c : Nat) (l : List Sp) (w : World) (h : SpsR w A l) (hn : l.length ≤ maxLen) (hv : validB o p l = false ∨ lineB x = false) :
    Calls Try.prog 30 #[.agg #[.int .i64 o, .int .i64 p, .slice A l.length c], .int .i64 x] w fun e w' => e = .returned (.tuple #[.int .i64 0, .bool false]) ∧ Below w.heap.size w w' := by
  have HN := Lib.hid hn
  have hW := (Below.refl w.heap.size w).alloc (Nat.le_refl _) (.cells #[.int .i64 o, .int .i64 p, .slice A l.length c] 24)
  have HS := Lib.hid (h.below hW)
  have HW := Lib.hid hW
  clear h hW hn
  cases hvv : validB o p l with
  | false =>
    have HV := Lib.hid hvv
    clear hvv hv
    go_enter Try.func30, Try.ntmps30
    go_wp2_with (go_at_call 20; refine (rvalidC_at _ HS.out HN.out HV.out).mono ?_; rintro e w1 ⟨rfl, hb1⟩)
    go_ret2
    exact ⟨rfl, below_next HW.out hb1⟩
  | true =>
    have hl : lineB x = false := by
      rcases hv with h | h
      · rw [hvv] at h; cases h
      · exact h
    have HV := Lib.hid hvv
    have HL := Lib.hid hl
    clear hvv hv hl
    go_enter Try.func30, Try.ntmps30
    go_wp2_with (first | (go_at_call 20; refine (rvalidC_at _ HS.out HN.out HV.out).mono ?_; rintro e w1 ⟨rfl, hb1⟩) | (go_at_call 43; refine (rline_at _ HL.out).mono ?_; rintro e w' ⟨rfl, rfl⟩))
    go_ret2
    exact ⟨rfl, below_next HW.out hb1⟩

theorem rnear_at {o p x : Int} {A : Option Addr} {c : Nat} {l : List Sp} (w : World) (h : SpsR w A l) (hv : validB o p l = true) (hl : lineB x = true) :
    Calls Try.prog 32 #[.agg #[.int .i64 o, .int .i64 p, .slice A l.length c], .int .i64 x] w fun e w' => e = .returned (.int .i64 (nearN o p l x)) ∧ Below w.heap.size w w' := rnear_yes o p x A c l w h hv hl

set_option maxHeartbeats 4000000 in
theorem rfind_yes (o p x : Int) (A : Option Addr) (c : Nat) (l : List Sp) (w : World) (h : SpsR w A l) (hv : validB o p l = true) (hl : lineB x = true) :
    Calls Try.prog 30 #[.agg #[.int .i64 o, .int .i64 p, .slice A l.length c], .int .i64 x] w fun e w' => e = .returned (.tuple #[.int .i64 (findN o p l x), .bool (findB o p l x)]) ∧ Below w.heap.size w w' := by
  have VD := Vd.of hv
  have hn5 := VD.n5
  have hn0 := VD.n0
  have p1 := VD.p1
  have p2 := VD.p2
  have o1 := VD.o1
  have o2 := VD.o2
  have hx := lineB_iff.1 hl
  obtain ⟨x1, x2⟩ := hx
  obtain ⟨q1, q2, q3, q4, q5, q6, q7⟩ := near_q VD x1 x2
  have hd := nearN_div (o := o) (p := p) (x := x) VD.n0
  have hlt := lastTo_lt (l := l) (r := (x - o) % p) l.length VD.n0
  have m1 : (l.length : Int) * ((x - o) / p) ≤ (l.length : Int) * 6597069766656 := Int.mul_le_mul_of_nonneg_left q2 (by omega)
  have m2 : (l.length : Int) * -6597069766656 ≤ (l.length : Int) * ((x - o) / p) := Int.mul_le_mul_of_nonneg_left q1 (by omega)
  have m3 : (l.length : Int) * ((x - o) / p) ≤ 32985348833280000 := by omega
  have m4 : -32985348833280000 ≤ (l.length : Int) * ((x - o) / p) := by omega
  obtain ⟨b, o', rfl, hc⟩ := h hn0
  have HV := Lib.hid hv
  have HN := Lib.hid (show l.length ≤ maxLen by simp only [maxLen]; omega)
  have HL := Lib.hid hl
  have hW := (Below.refl w.heap.size w).alloc (Nat.le_refl _) (.cells #[.int .i64 o, .int .i64 p, .slice (some ⟨b, o', none⟩) l.length c] 24)
  have hB := Blk.new w 24 #[.int .i64 o, .int .i64 p, .slice (some ⟨b, o', none⟩) l.length c]
  have HS := Lib.hid (h.below hW)
  have HC := Lib.hid hc
  have HW := Lib.hid hW
  have HB := Lib.hid hB
  obtain ⟨q, hq⟩ : ∃ q, (x - o) / p = q := ⟨_, rfl⟩
  obtain ⟨r, hr⟩ : ∃ r, (x - o) % p = r := ⟨_, rfl⟩
  obtain ⟨t, ht⟩ : ∃ t, lastTo l r l.length = t := ⟨_, rfl⟩
  obtain ⟨k, hk⟩ : ∃ k, nearN o p l x = k := ⟨_, rfl⟩
  have hkk : k = (l.length : Int) * q + (t : Int) := by rw [← hk, ← hq, ← ht, ← hr]; rfl
  rw [hr] at q5 q6 q7 hd hlt
  rw [hq] at q1 q2 q3 q4 q5 m3 m4 hd
  rw [ht, hk] at hd
  rw [ht] at hlt
  have hqr : x - o - q * p = r := by rw [Int.mul_comm q p]; omega
  have q3' : -6597069766656 ≤ q * p + p := by rw [Int.mul_comm q p]; exact q3
  have q4' : q * p ≤ 6597069766656 := by rw [Int.mul_comm q p]; exact q4
  have hkt : k - (l.length : Int) * q = (t : Int) := by omega
  have hin : inB o p l x = decide (r < tt l t) := by
    have e : atT o p l (nearN o p l x) = tt l t + (o + p * q) := by
      unfold atT; rw [hk, hd.1, hd.2]; rfl
    rw [inB, e]
    rw [Bool.eq_iff_iff]; simp; omega
  have hF : findB o p l x = decide (r < tt l t) ∧ findN o p l x = if r < tt l t then k else 0 := by
    have e : findB o p l x = decide (r < tt l t) := by rw [findB, hv, hl, hin]; rfl
    refine ⟨e, ?_⟩
    rw [findN, e, hk]; simp
  have k1 : -9223372036854775808 ≤ k := by omega
  have k2 : k ≤ 9223372036854775807 := by omega
  have HF := Lib.hid hF
  have HK := Lib.hid hk
  have HD := Lib.hid hd
  have HQ := Lib.hid hq
  have hc3 := (hc t hlt).2
  clear h hv hl hc hW hB VD m1 m2 q5 hr q3 q4 hin hF hk hkk hd hq ht
  go_enter Try.func30, Try.ntmps30
  go_wp2_with (first | (go_at_call 20; refine (rvalidC_at _ HS.out HN.out HV.out).mono ?_; rintro e w1 ⟨rfl, hb1⟩; have hB1 := HB.out.below hb1; have g0 := hB1.cell 0; have g1 := hB1.cell 1; have g2 := hB1.cell 2; simp at g0 g1 g2) | (go_at_call 43; refine (rline_at _ HL.out).mono ?_; rintro e w' ⟨rfl, rfl⟩) | (go_at_call 32; refine (rnear_at _ (HS.out.below hb1) HV.out HL.out).mono ?_; rintro e w2 ⟨rfl, hb2⟩; rw [HK.out]; have hB2 := hB1.below hb2; clear g0 g1 g2; have g0 := hB2.cell 0; have g1 := hB2.cell 1; have g2 := hB2.cell 2; simp at g0 g1 g2) | (go_at_call 58; refine (calls_b (rfloor_any _ _ _ k1 k2 (by omega) (by omega))).mono ?_; rintro e w3 ⟨rfl, hb3⟩; rw [HD.out.1]; clear g0 g1 g2; have hB3 := hB2.below hb3; have g0 := hB3.cell 0; have g1 := hB3.cell 1; have g2 := hB3.cell 2; have hlt := hB3.lt; simp at g0 g1 g2))
  have hb123 := below_next (below_next (below_next HW.out hb1) hb2) hb3
  have hcw := old_cell hb123 hc3
  have HB123 := Lib.hid hb123
  clear hb123 hc3 hB1 hB2 hB3 hb1 hb2 hb3
  by_cases hin : r < tt l t
  · have HI := Lib.hid (show findB o p l x = true ∧ findN o p l x = k by rw [HF.out.1, HF.out.2]; simp [hin])
    have d1 : decide (r < tt l t) = true := by simpa using hin
    clear hin
    go_quiet (fail)
    go_wp2
    go_ret2
    exact ⟨by rw [HI.out.1, HI.out.2]; rfl, below_drewN HB123.out _⟩
  · have HI := Lib.hid (show findB o p l x = false ∧ findN o p l x = 0 by rw [HF.out.1, HF.out.2]; simp [hin])
    have d1 : decide (r < tt l t) = false := by simpa using hin
    clear hin
    go_quiet (fail)
    go_wp2
    go_ret2
    exact ⟨by rw [HI.out.1, HI.out.2]; rfl, below_drewN HB123.out _⟩

theorem rfind_any (o p x : Int) (A : Option Addr) (c : Nat) (l : List Sp) (w : World) (h : SpsR w A l) (hn : l.length ≤ maxLen) :
    Calls Try.prog 30 #[.agg #[.int .i64 o, .int .i64 p, .slice A l.length c], .int .i64 x] w fun e w' => e = .returned (.tuple #[.int .i64 (findN o p l x), .bool (findB o p l x)]) ∧ Below w.heap.size w w' := by
  by_cases hv : validB o p l = false ∨ lineB x = false
  · rw [(findB_no hv).1, (findB_no hv).2]; exact rfind_no o p x A c l w h hn hv
  · simp only [not_or, Bool.not_eq_false] at hv
    exact rfind_yes o p x A c l w h hv.1 hv.2
end Go.Proofs.Ytnieceplfjmocaa
