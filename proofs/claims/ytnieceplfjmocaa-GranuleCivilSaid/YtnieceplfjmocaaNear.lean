/-
  granule.Near, and the search in it.
-/
import Derived.Test.YtnieceplfjmocaaRSpan
namespace Go.Proofs.Ytnieceplfjmocaa
open Go.RowKit Go.BigFrame

/-- the last of the first n spans that begins at r or before; 0 if none -/
def lastTo (l : List Sp) (r : Int) : Nat → Nat
  | 0 => 0
  | n + 1 => if fr l n ≤ r then n else lastTo l r n
def nearN (o p : Int) (l : List Sp) (x : Int) : Int := (l.length : Int) * ((x - o) / p) + (lastTo l ((x - o) % p) l.length : Int)

theorem lastTo_eq {l : List Sp} {r : Int} : ∀ (n i : Nat), i < n → fr l i ≤ r → (∀ j, i < j → j < n → r < fr l j) → lastTo l r n = i := by
  intro n
  induction n with
  | zero => intro i hi; omega
  | succ n ih =>
    intro i hi h1 h2
    unfold lastTo
    by_cases h : i = n
    · subst h; rw [if_pos h1]
    · rw [if_neg (by have := h2 n (by omega) (by omega); omega)]
      exact ih i (by omega) h1 (fun j hj hj2 => h2 j hj (by omega))

set_option maxHeartbeats 1000000 in
theorem nearc_any (bc br b o' : Nat) (c : Nat) (l : List Sp) (r : Int) (i : Nat) (w : World) (hi : i < l.length) (_hl : l.length ≤ 5000)
    (h1 : w.cell? ⟨bc, 2, none⟩ = some (.slice (some ⟨b, o', none⟩) l.length c)) (h2 : w.cell? ⟨br, 0, none⟩ = some (.int .i64 r)) (h3 : w.cell? ⟨b, o' + i * 2, none⟩ = some (.int .i64 (fr l i))) :
    Calls Try.prog 60 #[.int .i64 i, .pointer (some ⟨bc, 0, none⟩), .pointer (some ⟨br, 0, none⟩)] w fun e w' => e = .returned (.bool (decide (r < fr l i))) ∧ ∃ q, w' = w.drewN q := by
  go_enter Try.func60, Try.ntmps60
  go_wp2
  go_quiet (fail)
  go_wp2
  go_ret
  exact ⟨rfl, _, rfl⟩

theorem nearc_at {bc br b o' : Nat} {c : Nat} {l : List Sp} {r : Int} {i : Nat} {v : Bool} (w : World) (hi : i < l.length) (hl : l.length ≤ 5000)
    (h1 : w.cell? ⟨bc, 2, none⟩ = some (.slice (some ⟨b, o', none⟩) l.length c)) (h2 : w.cell? ⟨br, 0, none⟩ = some (.int .i64 r)) (h3 : w.cell? ⟨b, o' + i * 2, none⟩ = some (.int .i64 (fr l i))) (hv : decide (r < fr l i) = v) :
    Calls Try.prog 60 #[.int .i64 i, .pointer (some ⟨bc, 0, none⟩), .pointer (some ⟨br, 0, none⟩)] w fun e w' => e = .returned (.bool v) ∧ ∃ q, w' = w.drewN q := hv ▸ nearc_any bc br b o' c l r i w hi hl h1 h2 h3

set_option maxHeartbeats 2000000 in
theorem search_any (bc br b o' : Nat) (c : Nat) (l : List Sp) (r : Int) (w : World) (hl : l.length ≤ 5000) (hl0 : 0 < l.length) (hm : ∀ i j, i ≤ j → j < l.length → fr l i ≤ fr l j) (h0 : fr l 0 ≤ r)
    (h1 : w.cell? ⟨bc, 2, none⟩ = some (.slice (some ⟨b, o', none⟩) l.length c)) (h2 : w.cell? ⟨br, 0, none⟩ = some (.int .i64 r)) (h3 : ∀ i, i < l.length → w.cell? ⟨b, o' + i * 2, none⟩ = some (.int .i64 (fr l i))) (F : Value)
    (hF : F = .func (.func 60) #[] #[.pointer (some ⟨bc, 0, none⟩), .pointer (some ⟨br, 0, none⟩)]) :
    Calls Try.prog 59 #[.int .i64 l.length, F] w fun e w' => e = .returned (.int .i64 ((lastTo l r l.length : Int) + 1)) ∧ ∃ q, w' = w.drewN q := by
  subst hF
  have HM := Lib.hid hm
  have H3 := Lib.hid h3
  clear hm h3
  go_enter Try.func59, Try.ntmps59
  go_wp2
  go_loopw [5, 6] (fun a b wr => ∃ lo hi : Nat, lo ≤ hi ∧ hi ≤ l.length ∧ a = .int .i64 lo ∧ b = .int .i64 hi ∧ (∀ j, j < lo → fr l j ≤ r) ∧ (∀ j, hi ≤ j → j < l.length → r < fr l j) ∧ ∃ q, wr = w.drewN q) (fun a b _ => (intOf b - intOf a).toNat)
  case atStart => exact ⟨0, l.length, by omega, by omega, rfl, rfl, by omega, by omega, 0, rfl⟩
  case round =>
    obtain ⟨lo, hi, hlh, hhn, rfl, rfl, ha, hb, q, rfl⟩ := hrel
    have HA := Lib.hid ha
    have HB := Lib.hid hb
    clear ha hb
    by_cases hlt : lo < hi
    · obtain ⟨m, hm⟩ : ∃ m : Nat, ((lo : Int) + (hi : Int)) / 2 = (m : Int) := ⟨(lo + hi) / 2, by omega⟩
      have hm1 : lo ≤ m := by omega
      have hm2 : m < hi := by omega
      by_cases hr : r < fr l m
      · have hv : decide (r < fr l m) = true := by simpa using hr
        have HV := Lib.hid hv
        have HR := Lib.hid hr
        clear hv hr
        go_wp2_with (go_at_call 60; refine (nearc_at (w.drewN q) (by omega) hl h1 h2 (H3.out m (by omega)) HV.out).mono ?_; rintro e w' ⟨rfl, q2, rfl⟩)
        go_roundw
        case rel => exact ⟨lo, m, by omega, by omega, rfl, rfl, HA.out, fun j hj1 hj2 => Int.lt_of_lt_of_le HR.out (HM.out m j hj1 hj2), _, rfl⟩
        case measure => simp [intOf]; omega
      · have hv : decide (r < fr l m) = false := by simpa using hr
        have HV := Lib.hid hv
        have HR := Lib.hid (show fr l m ≤ r by omega)
        clear hv hr
        go_wp2_with (go_at_call 60; refine (nearc_at (w.drewN q) (by omega) hl h1 h2 (H3.out m (by omega)) HV.out).mono ?_; rintro e w' ⟨rfl, q2, rfl⟩)
        go_roundw
        case rel => exact ⟨m + 1, hi, by omega, by omega, by go_num, rfl, fun j hj => Int.le_trans (HM.out j m (by omega) (by omega)) HR.out, HB.out, _, rfl⟩
        case measure => simp [intOf]; omega
    · have hlh' : lo = hi := by omega
      have hlo : 0 < lo := by
        rcases Nat.eq_zero_or_pos lo with h | h
        · have := HB.out 0 (by omega) hl0; omega
        · exact h
      have he := lastTo_eq (l := l) (r := r) l.length (lo - 1) (by omega) (HA.out _ (by omega)) (fun j h1 h2 => HB.out j (by omega) h2)
      have HE := Lib.hid (show (lo : Int) = (lastTo l r l.length : Int) + 1 by rw [he]; omega)
      clear he hlh'
      go_wp2
      go_ret
      exact ⟨ret_int HE.out, _, rfl⟩

def nearR (o p : Int) (l : List Sp) (x : Int) : Int := if validB o p l && lineB x then nearN o p l x else 0

set_option maxHeartbeats 2000000 in
theorem near_no (o p x : Int) (A : Option Addr) (c : Nat) (l : List Sp) (w : World) (h : SpsR w A l) (hn : l.length ≤ maxLen) (hv : validB o p l = false ∨ lineB x = false) :
    Calls Try.prog 31 #[.agg #[.int .i64 o, .int .i64 p, .slice A l.length c], .int .i64 x] w fun e w' => e = .returned (.int .i64 0) ∧ Below w.heap.size w w' := by
  have HN := Lib.hid hn
  have hW := (Below.refl w.heap.size w).alloc (Nat.le_refl _) (.cells #[.int .i64 o, .int .i64 p, .slice A l.length c] 24)
  have HS := Lib.hid (h.below hW)
  have HW := Lib.hid hW
  clear h hW hn
  cases hvv : validB o p l with
  | false =>
    have HV := Lib.hid hvv
    clear hvv hv
    go_enter Try.func31, Try.ntmps31
    go_wp2_with (go_at_call 13; refine (valid_at _ HS.out HN.out HV.out).mono ?_; rintro e w1 ⟨rfl, hb1⟩)
    go_ret
    exact ⟨rfl, below_next HW.out hb1⟩
  | true =>
    have hl : lineB x = false := by rcases hv with h | h
                                    · rw [hvv] at h; cases h
                                    · exact h
    have HV := Lib.hid hvv
    have HL := Lib.hid hl
    clear hvv hv hl
    go_enter Try.func31, Try.ntmps31
    go_wp2_with (first | (go_at_call 13; refine (valid_at _ HS.out HN.out HV.out).mono ?_; rintro e w1 ⟨rfl, hb1⟩) | (go_at_call 50; refine (gline_at _ HL.out).mono ?_; rintro e w' ⟨rfl, rfl⟩))
    go_ret
    exact ⟨rfl, below_next HW.out hb1⟩

theorem near_q {o p x : Int} {l : List Sp} (hv : Vd o p l) (h1 : -4398046511104 ≤ x) (h2 : x ≤ 4398046511104) : -6597069766656 ≤ (x - o) / p ∧ (x - o) / p ≤ 6597069766656 ∧ -6597069766656 ≤ p * ((x - o) / p) + p ∧ p * ((x - o) / p) ≤ 6597069766656 ∧
    (x - o) - p * ((x - o) / p) = (x - o) % p ∧ 0 ≤ (x - o) % p ∧ (x - o) % p < p := by
  have a1 := hv.o1
  have a2 := hv.o2
  have p1 := hv.p1
  have hm := Int.emod_add_mul_ediv (x - o) p
  have hd := div_bd (a := x - o) p1
  have e1 : (x - o) / p ≤ 6597069766656 := by
    rcases Int.lt_or_le (x - o) 0 with h | h
    · have h3 : (x - o) / p < 0 := Int.ediv_neg_of_neg_of_pos h (by omega)
      omega
    · have := Int.ediv_le_self p h
      omega
  have e2 : -6597069766656 ≤ (x - o) / p := by
    apply Int.le_ediv_of_mul_le (by omega)
    have : -6597069766656 * p ≤ -6597069766656 * 1 := Int.mul_le_mul_of_nonpos_left (by omega) p1
    omega
  refine ⟨e2, e1, by omega, by omega, by omega, hd.1, hd.2⟩

set_option maxHeartbeats 4000000 in
theorem near_yes (o p x : Int) (A : Option Addr) (c : Nat) (l : List Sp) (w : World) (h : SpsR w A l) (hv : validB o p l = true) (hl : lineB x = true) :
    Calls Try.prog 31 #[.agg #[.int .i64 o, .int .i64 p, .slice A l.length c], .int .i64 x] w fun e w' => e = .returned (.int .i64 (nearN o p l x)) ∧ Below w.heap.size w w' := by
  have VD := Vd.of hv
  have hn5 := VD.n5
  have hn0 := VD.n0
  have p1 := VD.p1
  have p2 := VD.p2
  have o1 := VD.o1
  have o2 := VD.o2
  have hx := lineB_iff.1 hl
  obtain ⟨x1, x2⟩ := hx
  obtain ⟨q1, q2, q3, q4, q5, q6, q7⟩ := near_q VD x1 x2
  have hT : lastTo l ((x - o) % p) l.length ≤ l.length := by
    have : ∀ n, lastTo l ((x - o) % p) n ≤ n := by
      intro n
      induction n with
      | zero => simp [lastTo]
      | succ n ih => unfold lastTo; split <;> omega
    exact this _
  have hf0 : fr l 0 ≤ (x - o) % p := by rw [VD.f0]; exact q6
  have hmono : ∀ i j, i ≤ j → j < l.length → fr l i ≤ fr l j := fun i j h1 h2 => (asc_mono VD.asc j i h1 h2).1
  have m1 : (l.length : Int) * ((x - o) / p) ≤ (l.length : Int) * 6597069766656 := Int.mul_le_mul_of_nonneg_left q2 (by omega)
  have m2 : (l.length : Int) * -6597069766656 ≤ (l.length : Int) * ((x - o) / p) := Int.mul_le_mul_of_nonneg_left q1 (by omega)
  have m3 : (l.length : Int) * ((x - o) / p) ≤ 32985348833280000 := by omega
  have m4 : -32985348833280000 ≤ (l.length : Int) * ((x - o) / p) := by omega
  obtain ⟨b, o', rfl, hc⟩ := h hn0
  have HV := Lib.hid hv
  have HN := Lib.hid (show l.length ≤ maxLen by simp only [maxLen]; omega)
  have HL := Lib.hid hl
  have hW := (Below.refl w.heap.size w).alloc (Nat.le_refl _) (.cells #[.int .i64 o, .int .i64 p, .slice (some ⟨b, o', none⟩) l.length c] 24)
  have hB := Blk.new w 24 #[.int .i64 o, .int .i64 p, .slice (some ⟨b, o', none⟩) l.length c]
  have HS := Lib.hid (h.below hW)
  have HC := Lib.hid hc
  have HW := Lib.hid hW
  have HB := Lib.hid hB
  have HM := Lib.hid hmono
  obtain ⟨q, hq⟩ : ∃ q, (x - o) / p = q := ⟨_, rfl⟩
  obtain ⟨r, hr⟩ : ∃ r, (x - o) % p = r := ⟨_, rfl⟩
  have HR := Lib.hid (show nearN o p l x = (l.length : Int) * q + (lastTo l r l.length : Int) by rw [← hq, ← hr]; rfl)
  rw [hr] at hf0 hT q5 q6 q7
  rw [hq] at q1 q2 q3 q4 q5 m3 m4
  have hqr : x - o - p * q = r := by omega
  clear h hv hl hc hW hB hmono VD m1 m2 q5 hr
  go_enter Try.func31, Try.ntmps31
  go_wp2_with (first | (go_at_call 13; refine (valid_at _ HS.out HN.out HV.out).mono ?_; rintro e w1 ⟨rfl, hb1⟩; have hB1 := HB.out.below hb1; have g0 := hB1.cell 0; have g1 := hB1.cell 1; have g2 := hB1.cell 2; simp at g0 g1 g2) | (go_at_call 50; refine (gline_at _ HL.out).mono ?_; rintro e w' ⟨rfl, rfl⟩) | (go_at_call 51; refine (calls_b (ifloor_any _ _ _ (by omega) (by omega) (by omega) (by omega))).mono ?_; rintro e w2 ⟨rfl, hb2⟩; rw [hq]; clear g0 g1 g2; have hB2 := hB1.below hb2; have g0 := hB2.cell 0; have g1 := hB2.cell 1; have g2 := hB2.cell 2; have hlt := hB2.lt; simp at g0 g1 g2))
  have hb12 := below_next (below_next HW.out hb1) hb2
  have s1 : (w2.alloc (.cells #[.int .i64 r] 3)).cell? ⟨w.heap.size, 2, none⟩ = some (.slice (some ⟨b, o', none⟩) l.length c) := by simp [go_sem, hlt, g2]
  have s2 : (w2.alloc (.cells #[.int .i64 r] 3)).cell? ⟨w2.heap.size, 0, none⟩ = some (.int .i64 r) := by simp [go_sem]
  have s3 : ∀ i, i < l.length → (w2.alloc (.cells #[.int .i64 r] 3)).cell? ⟨b, o' + i * 2, none⟩ = some (.int .i64 (fr l i)) := fun i hi => old_cell (hb12.alloc hb12.size _) (HC.out i hi).1
  have S1 := Lib.hid s1
  have S2 := Lib.hid s2
  have S3 := Lib.hid s3
  clear s1 s2 s3
  refine (calls_b (search_any w.heap.size w2.heap.size b o' c l r _ hn5 hn0 HM.out hf0 S1.out S2.out S3.out _ rfl)).mono ?_
  rintro e w3 ⟨rfl, hb3⟩
  have hb3' : Below w2.heap.size w2 w3 := by have := hb3.mono (B' := w2.heap.size) (by simp); exact ((Below.refl _ _).alloc (Nat.le_refl _) _).trans this
  have hB3 := hB2.below hb3'
  clear g0 g1 g2
  have g2 := hB3.cell 2
  simp at g2
  clear hB1 hB2 hB3
  go_wp2
  go_ret
  exact ⟨ret_int (by rw [HR.out]; omega), below_next hb12 hb3'⟩

theorem near_any (o p x : Int) (A : Option Addr) (c : Nat) (l : List Sp) (w : World) (h : SpsR w A l) (hn : l.length ≤ maxLen) :
    Calls Try.prog 31 #[.agg #[.int .i64 o, .int .i64 p, .slice A l.length c], .int .i64 x] w fun e w' => e = .returned (.int .i64 (nearR o p l x)) ∧ Below w.heap.size w w' := by
  by_cases hv : validB o p l = true
  · by_cases hl : lineB x = true
    · rw [nearR, hv, hl]; exact near_yes o p x A c l w h hv hl
    · have : lineB x = false := by simpa using hl
      rw [nearR, hv, this]; exact near_no o p x A c l w h hn (.inr this)
  · have : validB o p l = false := by simpa using hv
    rw [nearR, this]; exact near_no o p x A c l w h hn (.inl this)
end Go.Proofs.Ytnieceplfjmocaa
