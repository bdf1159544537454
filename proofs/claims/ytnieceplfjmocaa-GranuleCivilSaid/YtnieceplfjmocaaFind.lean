/-
  granule.Find; the reference's Near and Find.
-/
import Derived.Test.YtnieceplfjmocaaNear
import Derived.Test.YtnieceplfjmocaaEql
namespace Go.Proofs.Ytnieceplfjmocaa
open Go.RowKit Go.BigFrame

attribute [local go_sem ↓] field_span0 field_span1

theorem lastTo_lt {l : List Sp} {r : Int} : ∀ n, 0 < n → lastTo l r n < n := by
  intro n
  induction n with
  | zero => omega
  | succ n ih =>
    intro _
    unfold lastTo
    split
    · omega
    · rcases Nat.eq_zero_or_pos n with h | h
      · subst h; simp [lastTo]
      · have := ih h; omega

theorem nearN_div {o p x : Int} {l : List Sp} (h : 0 < l.length) : nearN o p l x / (l.length : Int) = (x - o) / p ∧ nearN o p l x % (l.length : Int) = (lastTo l ((x - o) % p) l.length : Int) := by
  have hl := lastTo_lt (l := l) (r := (x - o) % p) l.length h
  unfold nearN
  generalize lastTo l ((x - o) % p) l.length = t at *
  constructor
  · rw [Int.add_comm, Int.add_mul_ediv_left _ _ (by omega), Int.ediv_eq_zero_of_lt (by omega) (by omega)]; omega
  · rw [Int.mul_add_emod_self_left, Int.emod_eq_of_lt (by omega) (by omega)]

/-- the granule with the number that Near gives ends behind x -/
def inB (o p : Int) (l : List Sp) (x : Int) : Bool := decide (x < atT o p l (nearN o p l x))
def findB (o p : Int) (l : List Sp) (x : Int) : Bool := validB o p l && (lineB x && inB o p l x)
def findN (o p : Int) (l : List Sp) (x : Int) : Int := if findB o p l x then nearN o p l x else 0

theorem near_at {o p x : Int} {A : Option Addr} {c : Nat} {l : List Sp} (w : World) (h : SpsR w A l) (hv : validB o p l = true) (hl : lineB x = true) :
    Calls Try.prog 31 #[.agg #[.int .i64 o, .int .i64 p, .slice A l.length c], .int .i64 x] w fun e w' => e = .returned (.int .i64 (nearN o p l x)) ∧ Below w.heap.size w w' := near_yes o p x A c l w h hv hl

set_option maxHeartbeats 2000000 in
theorem find_no (o p x : Int) (A : Option Addr) (c : Nat) (l : List Sp) (w : World) (h : SpsR w A l) (hn : l.length ≤ maxLen) (hv : validB o p l = false ∨ lineB x = false) :
    Calls Try.prog 29 #[.agg #[.int .i64 o, .int .i64 p, .slice A l.length c], .int .i64 x] w fun e w' => e = .returned (.tuple #[.int .i64 0, .bool false]) ∧ Below w.heap.size w w' := by
  have HN := Lib.hid hn
  have hW := (Below.refl w.heap.size w).alloc (Nat.le_refl _) (.cells #[.int .i64 o, .int .i64 p, .slice A l.length c] 24)
  have HS := Lib.hid (h.below hW)
  have HW := Lib.hid hW
  clear h hW hn
  cases hvv : validB o p l with
  | false =>
    have HV := Lib.hid hvv
    clear hvv hv
    go_enter Try.func29, Try.ntmps29
    go_wp2_with (go_at_call 13; refine (valid_at _ HS.out HN.out HV.out).mono ?_; rintro e w1 ⟨rfl, hb1⟩)
    go_ret2
    exact ⟨rfl, below_next HW.out hb1⟩
  | true =>
    have hl : lineB x = false := by
      rcases hv with h | h
      · rw [hvv] at h; cases h
      · exact h
    have HV := Lib.hid hvv
    have HL := Lib.hid hl
    clear hvv hv hl
    go_enter Try.func29, Try.ntmps29
    go_wp2_with (first | (go_at_call 13; refine (valid_at _ HS.out HN.out HV.out).mono ?_; rintro e w1 ⟨rfl, hb1⟩) | (go_at_call 50; refine (gline_at _ HL.out).mono ?_; rintro e w' ⟨rfl, rfl⟩))
    go_ret2
    exact ⟨rfl, below_next HW.out hb1⟩

set_option maxHeartbeats 4000000 in
theorem find_yes (o p x : Int) (A : Option Addr) (c : Nat) (l : List Sp) (w : World) (h : SpsR w A l) (hv : validB o p l = true) (hl : lineB x = true) :
    Calls Try.prog 29 #[.agg #[.int .i64 o, .int .i64 p, .slice A l.length c], .int .i64 x] w fun e w' => e = .returned (.tuple #[.int .i64 (findN o p l x), .bool (findB o p l x)]) ∧ Below w.heap.size w w' := by
  have VD := Vd.of hv
  have hn5 := VD.n5
  have hx := lineB_iff.1 hl
  obtain ⟨q1, q2, q3, q4, q5, q6, q7⟩ := near_q VD hx.1 hx.2
  have hd := nearN_div (o := o) (p := p) (x := x) VD.n0
  have hlt := lastTo_lt (l := l) (r := (x - o) % p) l.length VD.n0
  have m1 : (l.length : Int) * ((x - o) / p) ≤ (l.length : Int) * 6597069766656 := Int.mul_le_mul_of_nonneg_left q2 (by omega)
  have m2 : (l.length : Int) * -6597069766656 ≤ (l.length : Int) * ((x - o) / p) := Int.mul_le_mul_of_nonneg_left q1 (by omega)
  have k1 : -9223372036854775808 ≤ nearN o p l x := by unfold nearN; omega
  have k2 : nearN o p l x ≤ 9223372036854775807 := by unfold nearN; omega
  have p2 := VD.p2
  have b1 : -1125899906842624 ≤ p * (nearN o p l x / (l.length : Int)) := by rw [hd.1]; omega
  have b2 : p * (nearN o p l x / (l.length : Int)) ≤ 1125899906842624 := by rw [hd.1]; omega
  have HV := Lib.hid hv
  have HL := Lib.hid hl
  have HD := Lib.hid VD
  have HN := Lib.hid (show l.length ≤ maxLen by simp only [maxLen]; omega)
  have hW := (Below.refl w.heap.size w).alloc (Nat.le_refl _) (.cells #[.int .i64 o, .int .i64 p, .slice A l.length c] 24)
  have hB := Blk.new w 24 #[.int .i64 o, .int .i64 p, .slice A l.length c]
  have HS := Lib.hid (h.below hW)
  have HW := Lib.hid hW
  have HB := Lib.hid hB
  have HF : Hid (∀ v, inB o p l x = v → findB o p l x = v ∧ findN o p l x = if v then nearN o p l x else 0) := Lib.hid (fun v hv' => by
    have : findB o p l x = v := by rw [findB, hv, hl, hv']; rfl
    exact ⟨this, by rw [findN, this]⟩)
  clear h hv hl VD hx q1 q2 q3 q4 q5 q6 q7 hd hlt m1 m2 p2 hW hB
  generalize hk : nearN o p l x = k at *
  have HK := Lib.hid hk
  have HB1 := Lib.hid b1
  have HB2 := Lib.hid b2
  clear hk b1 b2
  by_cases hin : atT o p l k ≤ x
  · have HR := Lib.hid (HF.out false (by rw [inB, HK.out]; simp; omega))
    have d1 : decide (atT o p l k ≤ x) = true := by simpa using hin
    clear hin HF
    go_enter Try.func29, Try.ntmps29
    go_wp2_with (first | (go_at_call 13; refine (valid_at _ HS.out HN.out HV.out).mono ?_; rintro e w1 ⟨rfl, hb1⟩; have hB1 := HB.out.below hb1; have g0 := hB1.cell 0; have g1 := hB1.cell 1; have g2 := hB1.cell 2; simp at g0 g1 g2) | (go_at_call 50; refine (gline_at _ HL.out).mono ?_; rintro e w' ⟨rfl, rfl⟩) | (go_at_call 31; refine (near_at _ (HS.out.below hb1) HV.out HL.out).mono ?_; rintro e w2 ⟨rfl, hb2⟩; rw [HK.out]; have hB2 := hB1.below hb2; clear g0 g1 g2; have g0 := hB2.cell 0; have g1 := hB2.cell 1; have g2 := hB2.cell 2; simp at g0 g1 g2) | (go_at_call 52; refine (at_any _ _ _ _ _ _ _ ((HS.out.below hb1).below hb2) HD.out k1 k2 HB1.out HB2.out).mono ?_; rintro e w3 ⟨rfl, hb3⟩))
    go_ret2
    exact ⟨by rw [HR.out.1, HR.out.2]; rfl, below_next (below_next (below_next HW.out hb1) hb2) hb3⟩
  · have HR := Lib.hid (HF.out true (by rw [inB, HK.out]; simp; omega))
    have d1 : decide (atT o p l k ≤ x) = false := by simpa using hin
    clear hin HF
    go_enter Try.func29, Try.ntmps29
    go_wp2_with (first | (go_at_call 13; refine (valid_at _ HS.out HN.out HV.out).mono ?_; rintro e w1 ⟨rfl, hb1⟩; have hB1 := HB.out.below hb1; have g0 := hB1.cell 0; have g1 := hB1.cell 1; have g2 := hB1.cell 2; simp at g0 g1 g2) | (go_at_call 50; refine (gline_at _ HL.out).mono ?_; rintro e w' ⟨rfl, rfl⟩) | (go_at_call 31; refine (near_at _ (HS.out.below hb1) HV.out HL.out).mono ?_; rintro e w2 ⟨rfl, hb2⟩; rw [HK.out]; have hB2 := hB1.below hb2; clear g0 g1 g2; have g0 := hB2.cell 0; have g1 := hB2.cell 1; have g2 := hB2.cell 2; simp at g0 g1 g2) | (go_at_call 52; refine (at_any _ _ _ _ _ _ _ ((HS.out.below hb1).below hb2) HD.out k1 k2 HB1.out HB2.out).mono ?_; rintro e w3 ⟨rfl, hb3⟩))
    go_ret2
    exact ⟨by rw [HR.out.1, HR.out.2]; rfl, below_next (below_next (below_next HW.out hb1) hb2) hb3⟩

theorem findB_no {o p x : Int} {l : List Sp} (h : validB o p l = false ∨ lineB x = false) : findB o p l x = false ∧ findN o p l x = 0 := by
  have : findB o p l x = false := by rcases h with h | h <;> simp [findB, h]
  exact ⟨this, by rw [findN, this]; rfl⟩

theorem find_any (o p x : Int) (A : Option Addr) (c : Nat) (l : List Sp) (w : World) (h : SpsR w A l) (hn : l.length ≤ maxLen) :
    Calls Try.prog 29 #[.agg #[.int .i64 o, .int .i64 p, .slice A l.length c], .int .i64 x] w fun e w' => e = .returned (.tuple #[.int .i64 (findN o p l x), .bool (findB o p l x)]) ∧ Below w.heap.size w w' := by
  by_cases hv : validB o p l = false ∨ lineB x = false
  · rw [(findB_no hv).1, (findB_no hv).2]; exact find_no o p x A c l w h hn hv
  · simp only [not_or, Bool.not_eq_false] at hv
    exact find_yes o p x A c l w h hv.1 hv.2
end Go.Proofs.Ytnieceplfjmocaa
