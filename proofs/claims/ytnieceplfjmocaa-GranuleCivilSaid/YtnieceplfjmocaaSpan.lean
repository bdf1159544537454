/-
  granule.Span: a granule, or the error.
-/
import Derived.Test.YtnieceplfjmocaaAt
namespace Go.Proofs.Ytnieceplfjmocaa
open Go.RowKit Go.BigFrame

/-- granule k lies on the line -/
def onB (o p : Int) (l : List Sp) (k : Int) : Bool := lineB (atF o p l k) && lineB (atT o p l k)
def spanE (o p : Int) (l : List Sp) (k : Int) : Int := if validB o p l then (if onB o p l k then 0 else 2) else 1
def spanF (o p : Int) (l : List Sp) (k : Int) : Int := if spanE o p l k = 0 then atF o p l k else 0
def spanT (o p : Int) (l : List Sp) (k : Int) : Int := if spanE o p l k = 0 then atT o p l k else 0

theorem valid_at {o p : Int} {A : Option Addr} {c : Nat} {l : List Sp} {v : Bool} (w : World) (h : SpsR w A l) (hn : l.length ≤ maxLen) (hv : validB o p l = v) :
    Calls Try.prog 13 #[.agg #[.int .i64 o, .int .i64 p, .slice A l.length c]] w fun e w' => e = .returned (.bool v) ∧ Below w.heap.size w w' := hv ▸ validC_any o p A c l w h hn
theorem rvalidC_at {o p : Int} {A : Option Addr} {c : Nat} {l : List Sp} {v : Bool} (w : World) (h : SpsR w A l) (hn : l.length ≤ maxLen) (hv : validB o p l = v) :
    Calls Try.prog 20 #[.agg #[.int .i64 o, .int .i64 p, .slice A l.length c]] w fun e w' => e = .returned (.bool v) ∧ Below w.heap.size w w' := hv ▸ rvalidC_any o p A c l w h hn

theorem far_hi {o p : Int} {l : List Sp} {k M : Int} (hv : Vd o p l) (hM : 8796093022208 ≤ M) (h : M / p < k / (l.length : Int)) : onB o p l k = false := by
  have hm := div_bd (a := k) (b := (l.length : Int)) (by have := hv.n0; omega)
  have hb := hv.bd (show (k % (l.length : Int)).toNat < l.length by have := hv.n0; omega)
  have h1 : p * (M / p + 1) ≤ p * (k / (l.length : Int)) := Int.mul_le_mul_of_nonneg_left (by omega) (by have := hv.p1; omega)
  have h2 := Int.mul_ediv_add_emod M p
  have h3 := Int.emod_lt_of_pos M (show 0 < p by have := hv.p1; omega)
  rw [Int.mul_add] at h1
  have o1 := hv.o1
  have : lineB (atF o p l k) = false := by
    cases hl : lineB (atF o p l k) with
    | false => rfl
    | true => have := lineB_iff.1 hl
              simp only [atF] at this
              omega
  simp [onB, this]
theorem far_lo {o p : Int} {l : List Sp} {k M : Int} (hv : Vd o p l) (hM : 8796093022208 ≤ M) (h : k / (l.length : Int) < -(M / p) - 1) : onB o p l k = false := by
  have hm := div_bd (a := k) (b := (l.length : Int)) (by have := hv.n0; omega)
  have hb := hv.bd (show (k % (l.length : Int)).toNat < l.length by have := hv.n0; omega)
  have h1 : p * (k / (l.length : Int)) ≤ p * (-(M / p) - 2) := Int.mul_le_mul_of_nonneg_left (by omega) (by have := hv.p1; omega)
  have h2 := Int.mul_ediv_add_emod M p
  have h3 := Int.emod_lt_of_pos M (show 0 < p by have := hv.p1; omega)
  have e : p * (-(M / p) - 2) = -(p * (M / p)) - p * 2 := by rw [Int.mul_sub, Int.mul_neg]
  have o2 := hv.o2
  have : lineB (atF o p l k) = false := by
    cases hl : lineB (atF o p l k) with
    | false => rfl
    | true => have := lineB_iff.1 hl
              simp only [atF] at this
              omega
  simp [onB, this]
theorem near_bd {p : Int} {k M : Int} {n : Nat} (hp : 1 ≤ p) (hp2 : p ≤ 12622780800) (hM : M ≤ 35184372088832) (hM0 : 0 ≤ M) (h1 : k / (n : Int) ≤ M / p + 1) (h2 : -(M / p) - 1 ≤ k / (n : Int)) :
    -1125899906842624 ≤ p * (k / (n : Int)) ∧ p * (k / (n : Int)) ≤ 1125899906842624 := by
  have e1 : p * (k / (n : Int)) ≤ p * (M / p + 1) := Int.mul_le_mul_of_nonneg_left h1 (by omega)
  have e2 : p * (-(M / p) - 1) ≤ p * (k / (n : Int)) := Int.mul_le_mul_of_nonneg_left h2 (by omega)
  have e3 : p * (-(M / p) - 1) = -(p * (M / p)) - p := by rw [Int.mul_sub, Int.mul_neg]; omega
  rw [Int.mul_add] at e1
  have h4 := Int.mul_ediv_add_emod M p
  have h5 := div_bd (a := M) hp
  omega

theorem spanE_v {o p : Int} {l : List Sp} {k : Int} (hv : validB o p l = false) : spanE o p l k = 1 ∧ spanF o p l k = 0 ∧ spanT o p l k = 0 := by
  have : spanE o p l k = 1 := by simp [spanE, hv]
  simp [spanF, spanT, this]
theorem spanE_off {o p : Int} {l : List Sp} {k : Int} (hv : validB o p l = true) (h : onB o p l k = false) : spanE o p l k = 2 ∧ spanF o p l k = 0 ∧ spanT o p l k = 0 := by
  have : spanE o p l k = 2 := by simp [spanE, hv, h]
  simp [spanF, spanT, this]
theorem spanE_on {o p : Int} {l : List Sp} {k : Int} (hv : validB o p l = true) (h : onB o p l k = true) : spanE o p l k = 0 ∧ spanF o p l k = atF o p l k ∧ spanT o p l k = atT o p l k := by
  have : spanE o p l k = 0 := by simp [spanE, hv, h]
  simp [spanF, spanT, this]

def SpanRes (e : Ending) (o p : Int) (l : List Sp) (k : Int) : Prop := e = .returned (.tuple #[.agg #[.int .i64 (spanF o p l k), .int .i64 (spanT o p l k)], .int .i64 (spanE o p l k)])

set_option maxHeartbeats 2000000 in
theorem span_inv (o p k : Int) (A : Option Addr) (c : Nat) (l : List Sp) (w : World) (h : SpsR w A l) (hn : l.length ≤ maxLen) (hv : validB o p l = false) :
    Calls Try.prog 17 #[.agg #[.int .i64 o, .int .i64 p, .slice A l.length c], .int .i64 k] w fun e w' => SpanRes e o p l k ∧ Below w.heap.size w w' := by
  have HR := Lib.hid (spanE_v (k := k) hv)
  have HV := Lib.hid hv
  have HN := Lib.hid hn
  have hW := ((Below.refl w.heap.size w).alloc (Nat.le_refl _) (.cells #[.int .i64 o, .int .i64 p, .slice A l.length c] 24)).alloc (by simp) (.cells #[.int .i64 0, .int .i64 0] 28)
  have hB := Blk.new (w.alloc (.cells #[.int .i64 o, .int .i64 p, .slice A l.length c] 24)) 28 #[.int .i64 0, .int .i64 0]
  have HS := Lib.hid (h.below hW)
  have HW := Lib.hid hW
  have HB := Lib.hid hB
  clear hv h hW hB hn
  go_enter Try.func17, Try.ntmps17
  go_wp2_with (go_at_call 13; refine (valid_at _ HS.out HN.out HV.out).mono ?_; rintro e w1 ⟨rfl, hb1⟩; have hB1 := HB.out.below hb1; have g0 := hB1.cell 0; have g1 := hB1.cell 1; have f0 := hB1.frozen 0; have f1 := hB1.frozen 1; simp at g0 g1 f0 f1)
  obtain ⟨r1, r2, r3⟩ := HR.out
  refine bodyPost_ret (v := .tuple #[.agg #[.int .i64 0, .int .i64 0], .int .i64 1]) (by simp [results, Try.results17, go_sem, g0, g1]) rfl ⟨by rw [SpanRes, r1, r2, r3], ?_⟩
  exact ((below_next HW.out hb1).setCell (by simp) _).setCell (by simp) _

set_option maxHeartbeats 4000000 in
theorem span_val (o p k : Int) (A : Option Addr) (c : Nat) (l : List Sp) (w : World) (h : SpsR w A l) (hv : validB o p l = true) (hk1 : -9223372036854775808 ≤ k) (hk2 : k ≤ 9223372036854775807) :
    Calls Try.prog 17 #[.agg #[.int .i64 o, .int .i64 p, .slice A l.length c], .int .i64 k] w fun e w' => SpanRes e o p l k ∧ Below w.heap.size w w' := by
  have VD := Vd.of hv
  have hn5 := VD.n5
  have hn0 := VD.n0
  have hp1 := VD.p1
  have hp2 := VD.p2
  have HV := Lib.hid hv
  have HD := Lib.hid VD
  have HN := Lib.hid (show l.length ≤ maxLen by simp only [maxLen]; omega)
  have hW := ((Below.refl w.heap.size w).alloc (Nat.le_refl _) (.cells #[.int .i64 o, .int .i64 p, .slice A l.length c] 24)).alloc (by simp) (.cells #[.int .i64 0, .int .i64 0] 28)
  have hB := Blk.new (w.alloc (.cells #[.int .i64 o, .int .i64 p, .slice A l.length c] 24)) 28 #[.int .i64 0, .int .i64 0]
  have hC := (Blk.new w 24 #[.int .i64 o, .int .i64 p, .slice A l.length c]).alloc (.cells #[.int .i64 0, .int .i64 0] 28)
  have HS := Lib.hid (h.below hW)
  have HW := Lib.hid hW
  have HB := Lib.hid hB
  have HC := Lib.hid hC
  have z1 : 0 ≤ 8796093022208 / p := Int.ediv_nonneg (by omega) (by omega)
  have z2 : 8796093022208 / p ≤ 8796093022208 := Int.ediv_le_self _ (by omega)
  have zt : (-8796093022208 : Int).tdiv p = -(8796093022208 / p) := by rw [Int.neg_tdiv, Int.tdiv_eq_ediv_of_nonneg (by omega)]
  have z3 : (-8796093022208 : Int).tdiv p = -(8796093022208 / p) := zt
  have kb := div_bd (a := k) (b := (l.length : Int)) (by omega)
  clear hv h hW hB hC VD zt
  by_cases t1 : 8796093022208 / p < k / (l.length : Int)
  · have HR := Lib.hid (spanE_off HV.out (far_hi HD.out (by omega) t1))
    have d1 : decide (8796093022208 / p < k / (l.length : Int)) = true := by simpa using t1
    clear t1
    go_enter Try.func17, Try.ntmps17
    go_wp2_with (first | (go_at_call 13; refine (valid_at _ HS.out HN.out HV.out).mono ?_; rintro e w1 ⟨rfl, hb1⟩; have hB1 := HB.out.below hb1; have hC1 := HC.out.below hb1; have g0 := hB1.cell 0; have g1 := hB1.cell 1; have f0 := hB1.frozen 0; have f1 := hB1.frozen 1; have g2 := hC1.cell 1; have g3 := hC1.cell 2; simp at g0 g1 f0 f1 g2 g3) | (go_at_call 51; refine (ifloor_any _ _ _ hk1 hk2 (by omega) (by omega)).mono ?_; rintro e w' ⟨rfl, n, rfl⟩))
    obtain ⟨r1, r2, r3⟩ := HR.out
    refine bodyPost_ret (v := .tuple #[.agg #[.int .i64 0, .int .i64 0], .int .i64 2]) (by simp [results, Try.results17, go_sem, g0, g1]) rfl ⟨by rw [SpanRes, r1, r2, r3], ?_⟩
    exact ((below_drewN (below_next HW.out hb1) n).setCell (by simp) _).setCell (by simp) _
  · have d1 : decide (8796093022208 / p < k / (l.length : Int)) = false := by simpa using t1
    by_cases t2 : k / (l.length : Int) < -(8796093022208 / p) - 1
    · have HR := Lib.hid (spanE_off HV.out (far_lo HD.out (by omega) t2))
      have d2 : decide (k / (l.length : Int) < -(8796093022208 / p) - 1) = true := by simpa using t2
      clear t2
      go_enter Try.func17, Try.ntmps17
      go_wp2_with (first | (go_at_call 13; refine (valid_at _ HS.out HN.out HV.out).mono ?_; rintro e w1 ⟨rfl, hb1⟩; have hB1 := HB.out.below hb1; have hC1 := HC.out.below hb1; have g0 := hB1.cell 0; have g1 := hB1.cell 1; have f0 := hB1.frozen 0; have f1 := hB1.frozen 1; have g4 := hC1.cell 0; have g2 := hC1.cell 1; have g3 := hC1.cell 2; simp at g0 g1 f0 f1 g2 g3 g4) | (go_at_call 51; refine (ifloor_any _ _ _ hk1 hk2 (by omega) (by omega)).mono ?_; rintro e w' ⟨rfl, n, rfl⟩))
      obtain ⟨r1, r2, r3⟩ := HR.out
      refine bodyPost_ret (v := .tuple #[.agg #[.int .i64 0, .int .i64 0], .int .i64 2]) (by simp [results, Try.results17, go_sem, g0, g1]) rfl ⟨by rw [SpanRes, r1, r2, r3], ?_⟩
      exact ((below_drewN (below_next HW.out hb1) n).setCell (by simp) _).setCell (by simp) _
    · have d2 : decide (k / (l.length : Int) < -(8796093022208 / p) - 1) = false := by simpa using t2
      have nb := near_bd (n := l.length) hp1 hp2 (by omega) (by omega) (show k / (l.length : Int) ≤ 8796093022208 / p + 1 by omega) (by omega)
      clear t1 t2
      by_cases hF : lineB (atF o p l k) = true
      · have HF := Lib.hid hF
        by_cases hT : lineB (atT o p l k) = true
        · have HT := Lib.hid hT
          have HR := Lib.hid (spanE_on HV.out (show onB o p l k = true by rw [onB, hF, hT]; rfl))
          clear hF hT
          go_enter Try.func17, Try.ntmps17
          go_wp2_with (first | (go_at_call 13; refine (valid_at _ HS.out HN.out HV.out).mono ?_; rintro e w1 ⟨rfl, hb1⟩; have hB1 := HB.out.below hb1; have hC1 := HC.out.below hb1; have g0 := hB1.cell 0; have g1 := hB1.cell 1; have f0 := hB1.frozen 0; have f1 := hB1.frozen 1; have g4 := hC1.cell 0; have g2 := hC1.cell 1; have g3 := hC1.cell 2; simp at g0 g1 f0 f1 g2 g3 g4) | (go_at_call 51; refine (ifloor_any _ _ _ hk1 hk2 (by omega) (by omega)).mono ?_; rintro e w' ⟨rfl, n, rfl⟩) | (go_at_call 52; refine (at_any _ _ _ _ _ _ _ ((HS.out.below hb1).drewN _) HD.out hk1 hk2 nb.1 nb.2).mono ?_; rintro e w2 ⟨rfl, hb2⟩; have hB2 := (hB1.drewN n).below hb2; have y0 := hB2.cell 0; have y1 := hB2.cell 1; have x0 := hB2.frozen 0; have x1 := hB2.frozen 1; simp at y0 y1 x0 x1; have hlt2 := hB2.lt; simp at hlt2) | (go_at_call 50; first | ((with_reducible refine (gline_at _ HF.out).mono ?_); rintro e w' ⟨rfl, rfl⟩) | ((with_reducible refine (gline_at _ HT.out).mono ?_); rintro e w' ⟨rfl, rfl⟩)))
          obtain ⟨r1, r2, r3⟩ := HR.out
          refine bodyPost_ret (v := .tuple #[.agg #[.int .i64 (atF o p l k), .int .i64 (atT o p l k)], .int .i64 0]) (by simp [results, Try.results17, go_sem, y0, y1, hlt2]) rfl ⟨by rw [SpanRes, r1, r2, r3], ?_⟩
          exact ((((below_next (below_drewN (below_next HW.out hb1) n) hb2).setCell (by simp) _).setCell (by simp) _).alloc (by simp; have := ((below_next (below_drewN (below_next HW.out hb1) n) hb2)).size; omega) _)

        · have hT' : lineB (atT o p l k) = false := by simpa using hT
          have HT := Lib.hid hT'
          have HR := Lib.hid (spanE_off HV.out (show onB o p l k = false by rw [onB, hF, hT']; rfl))
          clear hF hT hT'
          go_enter Try.func17, Try.ntmps17
          go_wp2_with (first | (go_at_call 13; refine (valid_at _ HS.out HN.out HV.out).mono ?_; rintro e w1 ⟨rfl, hb1⟩; have hB1 := HB.out.below hb1; have hC1 := HC.out.below hb1; have g0 := hB1.cell 0; have g1 := hB1.cell 1; have f0 := hB1.frozen 0; have f1 := hB1.frozen 1; have g4 := hC1.cell 0; have g2 := hC1.cell 1; have g3 := hC1.cell 2; simp at g0 g1 f0 f1 g2 g3 g4) | (go_at_call 51; refine (ifloor_any _ _ _ hk1 hk2 (by omega) (by omega)).mono ?_; rintro e w' ⟨rfl, n, rfl⟩) | (go_at_call 52; refine (at_any _ _ _ _ _ _ _ ((HS.out.below hb1).drewN _) HD.out hk1 hk2 nb.1 nb.2).mono ?_; rintro e w2 ⟨rfl, hb2⟩; have hB2 := (hB1.drewN n).below hb2; have y0 := hB2.cell 0; have y1 := hB2.cell 1; have x0 := hB2.frozen 0; have x1 := hB2.frozen 1; simp at y0 y1 x0 x1; have hlt2 := hB2.lt; simp at hlt2) | (go_at_call 50; first | ((with_reducible refine (gline_at _ HF.out).mono ?_); rintro e w' ⟨rfl, rfl⟩) | ((with_reducible refine (gline_at _ HT.out).mono ?_); rintro e w' ⟨rfl, rfl⟩)))
          obtain ⟨r1, r2, r3⟩ := HR.out
          refine bodyPost_ret (v := .tuple #[.agg #[.int .i64 0, .int .i64 0], .int .i64 2]) (by simp [results, Try.results17, go_sem, y0, y1, hlt2]) rfl ⟨by rw [SpanRes, r1, r2, r3], ?_⟩
          exact ((((below_next (below_drewN (below_next HW.out hb1) n) hb2).setCell (by simp) _).setCell (by simp) _).alloc (by simp; have := ((below_next (below_drewN (below_next HW.out hb1) n) hb2)).size; omega) _)

      · have hF' : lineB (atF o p l k) = false := by simpa using hF
        have HF := Lib.hid hF'
        have HT := HF
        have HR := Lib.hid (spanE_off HV.out (show onB o p l k = false by rw [onB, hF']; rfl))
        clear hF hF'
        go_enter Try.func17, Try.ntmps17
        go_wp2_with (first | (go_at_call 13; refine (valid_at _ HS.out HN.out HV.out).mono ?_; rintro e w1 ⟨rfl, hb1⟩; have hB1 := HB.out.below hb1; have hC1 := HC.out.below hb1; have g0 := hB1.cell 0; have g1 := hB1.cell 1; have f0 := hB1.frozen 0; have f1 := hB1.frozen 1; have g4 := hC1.cell 0; have g2 := hC1.cell 1; have g3 := hC1.cell 2; simp at g0 g1 f0 f1 g2 g3 g4) | (go_at_call 51; refine (ifloor_any _ _ _ hk1 hk2 (by omega) (by omega)).mono ?_; rintro e w' ⟨rfl, n, rfl⟩) | (go_at_call 52; refine (at_any _ _ _ _ _ _ _ ((HS.out.below hb1).drewN _) HD.out hk1 hk2 nb.1 nb.2).mono ?_; rintro e w2 ⟨rfl, hb2⟩; have hB2 := (hB1.drewN n).below hb2; have y0 := hB2.cell 0; have y1 := hB2.cell 1; have x0 := hB2.frozen 0; have x1 := hB2.frozen 1; simp at y0 y1 x0 x1; have hlt2 := hB2.lt; simp at hlt2) | (go_at_call 50; first | ((with_reducible refine (gline_at _ HF.out).mono ?_); rintro e w' ⟨rfl, rfl⟩) | ((with_reducible refine (gline_at _ HT.out).mono ?_); rintro e w' ⟨rfl, rfl⟩)))
        obtain ⟨r1, r2, r3⟩ := HR.out
        refine bodyPost_ret (v := .tuple #[.agg #[.int .i64 0, .int .i64 0], .int .i64 2]) (by simp [results, Try.results17, go_sem, y0, y1, hlt2]) rfl ⟨by rw [SpanRes, r1, r2, r3], ?_⟩
        exact ((((below_next (below_drewN (below_next HW.out hb1) n) hb2).setCell (by simp) _).setCell (by simp) _).alloc (by simp; have := ((below_next (below_drewN (below_next HW.out hb1) n) hb2)).size; omega) _)

end Go.Proofs.Ytnieceplfjmocaa
