/-
  civiltimelaw15.awake: the examples of the chapter hold.
-/
import Derived.Test.YtnieceplfjmocaaWeeks
import Derived.Test.YtnieceplfjmocaaOfV
import Derived.Test.YtnieceplfjmocaaRSpan
import Derived.Test.YtnieceplfjmocaaEql
namespace Go.Proofs.Ytnieceplfjmocaa
open Go.RowKit Go.BigFrame

theorem mon_fr (k : Nat) (h : k < 4800) : fr monS k = psum (monL 4800) k ∧ tt monS k = psum (monL 4800) (k + 1) := ⟨fr_row h, tt_row h⟩
theorem mon_len : monS.length = 4800 := rowTo_len _ _
theorem mon_first : psum (monL 4800) 0 = 0 ∧ psum (monL 4800) 1 = 31 ∧ psum (monL 4800) 2 = 59 := by
  have h1 : psum (monL 4800) 1 = psum (monL 4800) 0 + iat (monL 4800) 0 := psum_succ (by rw [monL_len]; omega)
  have h2 : psum (monL 4800) 2 = psum (monL 4800) 1 + iat (monL 4800) 1 := psum_succ (by rw [monL_len]; omega)
  have a0 : monAt 0 = 31 := by decide
  have a1 : monAt 1 = 28 := by decide
  rw [iat_mon (by omega)] at h1 h2
  rw [psum_zero] at h1
  exact ⟨rfl, by omega, by omega⟩

theorem mon_okB : OfOkB 0 monP monS := by
  have hb := psum_bd mon_ok 4800 (by rw [monL_len]; omega)
  have hb1 := psum_bd mon_ok 4799 (by rw [monL_len]; omega)
  have hs : psum (monL 4800) 4800 = psum (monL 4800) 4799 + iat (monL 4800) 4799 := psum_succ (by rw [monL_len]; omega)
  rw [iat_mon (by omega)] at hs
  have hm := monAt_bd 4799 (by omega)
  have ha := row_asc mon_ok
  rw [monL_len] at ha
  have hf0 : fr monS 0 = 0 := (mon_fr 0 (by omega)).1
  have htl : tt monS (monS.length - 1) = monP := by rw [mon_len]; exact (mon_fr 4799 (by omega)).2
  have hP : monP = psum (monL 4800) 4800 := rfl
  refine ⟨by omega, by omega, ha, by rw [htl, hf0]; omega, by rw [mon_len]; omega, by decide, by rw [hf0]; decide⟩

theorem mon_two : 2 ≤ ofM monP monS := by
  have hl : (shiftL monS (fr monS 0)).length = 4800 := by rw [shiftL_len, mon_len]
  obtain ⟨m1, m2, m3, _⟩ := leastN_spec (p := monP) (l := shiftL monS (fr monS 0)) (by omega)
  have hm : leastN monP (shiftL monS (fr monS 0)) = ofM monP monS := rfl
  rcases Nat.lt_or_ge (ofM monP monS) 2 with h | h
  · have h1 : leastN monP (shiftL monS (fr monS 0)) = 1 := by omega
    rw [h1] at m3
    have := (repM_parts m3).2.2 0 (by omega)
    have e := eqAt_iff.1 this
    simp only [Nat.zero_add] at e
    rw [fr_shift (by rw [mon_len]; omega), fr_shift (by rw [mon_len]; omega), tt_shift (by rw [mon_len]; omega), tt_shift (by rw [mon_len]; omega)] at e
    have f0 := mon_fr 0 (by omega)
    have f1 := mon_fr 1 (by omega)
    rw [f0.1, f0.2, f1.1, f1.2] at e
    obtain ⟨p0, p1, p2⟩ := mon_first
    have e2 : psum (monL 4800) (1 + 1) = 59 := p2
    have e3 : psum (monL 4800) (0 + 1) = 31 := p1
    rw [e2, e3, p0] at e
    generalize monP / _ = D at e
    omega
  · exact h

theorem mon_span : spanE 0 (ofP monP monS) (ofL monP monS) 1 = 0 ∧ spanF 0 (ofP monP monS) (ofL monP monS) 1 = 31 ∧ spanT 0 (ofP monP monS) (ofL monP monS) 1 = 59 := by
  have hf0 : fr monS 0 = 0 := (mon_fr 0 (by omega)).1
  have hV := of_valid mon_okB
  rw [hf0] at hV
  have h2 := mon_two
  have hl : (shiftL monS (fr monS 0)).length = 4800 := by rw [shiftL_len, mon_len]
  obtain ⟨m1, m2, m3, _⟩ := leastN_spec (p := monP) (l := shiftL monS (fr monS 0)) (by omega)
  have hm : leastN monP (shiftL monS (fr monS 0)) = ofM monP monS := rfl
  have hlen : (ofL monP monS).length = ofM monP monS := by unfold ofL; rw [List.length_take]; omega
  obtain ⟨p0, p1, p2⟩ := mon_first
  have f1 := mon_fr 1 (by omega)
  have e1 : fr (ofL monP monS) 1 = 31 := by
    unfold ofL; rw [fr_take (by omega), fr_shift (by rw [mon_len]; omega), f1.1, hf0, p1]; rfl
  have e2 : tt (ofL monP monS) 1 = 59 := by
    have e2 : psum (monL 4800) (1 + 1) = 59 := p2
    unfold ofL; rw [tt_take (by omega), tt_shift (by rw [mon_len]; omega), f1.2, hf0, e2]; rfl
  have d1 : (1 : Int) / ((ofL monP monS).length : Int) = 0 := Int.ediv_eq_zero_of_lt (by omega) (by omega)
  have d2 : (1 : Int) % ((ofL monP monS).length : Int) = 1 := Int.emod_eq_of_lt (by omega) (by omega)
  have a1 : atF 0 (ofP monP monS) (ofL monP monS) 1 = 31 := by
    unfold atF; rw [d1, d2]
    show fr (ofL monP monS) 1 + _ = _
    rw [e1]; simp
  have a2 : atT 0 (ofP monP monS) (ofL monP monS) 1 = 59 := by
    unfold atT; rw [d1, d2]
    show tt (ofL monP monS) 1 + _ = _
    rw [e2]; simp
  have ho : onB 0 (ofP monP monS) (ofL monP monS) 1 = true := by rw [onB, a1, a2]; decide
  have hv : validB 0 (ofP monP monS) (ofL monP monS) = true := by
    have h3 : (0 : Int) + 0 = 0 := rfl
    rw [h3] at hV
    exact hV.back
  have := spanE_on hv ho
  rw [a1, a2] at this
  exact this

theorem wk_span : spanE (-3) 7 [(0, 7)] 0 = 0 ∧ spanF (-3) 7 [(0, 7)] 0 = -3 ∧ spanT (-3) 7 [(0, 7)] 0 = 4 := by decide

attribute [local go_sem ↓] eql_span

set_option maxRecDepth 20000 in
set_option maxHeartbeats 4000000 in
theorem awake_any (w : World) :
    Calls Try.prog 12 #[] w fun e w' => e = .returned (.bool true) ∧ Below w.heap.size w w' := by
  go_enter Try.func12, Try.ntmps12
  go_wp2_with fail
  refine (weeks_yes 1 _ (by omega) (by omega)).mono ?_
  rintro e w1 ⟨⟨A1, c1, rfl, hs1, hf1⟩, hb1⟩
  have S1 := Lib.hid (span_any (-3) 7 0 A1 c1 [(0, 7)] _ (hs1.alloc (.cells #[.int .i64 (-3), .int .i64 7, .slice A1 1 c1] 24)) (by simp [maxLen]) (by omega) (by omega))
  clear hs1
  go_wp2_with fail
  refine S1.out.mono ?_
  rintro e w2 ⟨he, hb2⟩
  obtain ⟨k1, k2, k3⟩ := wk_span
  rw [SpanRes, k1, k2, k3] at he
  subst he
  have hb12 : Below w.heap.size w w2 := below_next (hb1.alloc hb1.size _) hb2
  clear S1 hb1 hb2 k1 k2 k3 hf1
  go_wp2_with fail
  refine (monthsC_any _).mono ?_
  rintro e w3 ⟨⟨A3, c3, rfl, hs3, hf3⟩, hb3⟩
  have hB3 := (Blk.new w2 28 #[.int .i64 (-3), .int .i64 4]).below hb3
  have hlm : (ofL monP monS).length ≤ maxLen := by
    have : (ofL monP monS).length ≤ 4800 := by unfold ofL; rw [List.length_take, shiftL_len, mon_len]; omega
    simp only [maxLen]; omega
  have S2 := Lib.hid (span_any 0 (ofP monP monS) 1 A3 c3 (ofL monP monS) _ (hs3.alloc (.cells #[.int .i64 0, .int .i64 (ofP monP monS), .slice A3 (ofL monP monS).length c3] 24)) hlm (by omega) (by omega))
  have hb13 : Below w.heap.size w w3 := below_next (hb12.alloc hb12.size _) hb3
  have M := Lib.hid mon_span
  clear hs3 hlm hb12 hb3 hf3
  generalize ofL monP monS = L at *
  generalize ofP monP monS = P at *
  go_wp2_with fail
  refine S2.out.mono ?_
  rintro e w4 ⟨he, hb4⟩
  obtain ⟨k1, k2, k3⟩ := M.out
  rw [SpanRes, k1, k2, k3] at he
  subst he
  have hB4 := (hB3.alloc (.cells #[.int .i64 0, .int .i64 P, .slice A3 L.length c3] 24)).below hb4
  have g0 := hB4.cell 0
  have g1 := hB4.cell 1
  have hlt := hB4.lt
  simp at g0 g1
  have hb14 : Below w.heap.size w w4 := below_next (hb13.alloc hb13.size _) hb4
  clear S2 M hB3 hB4 k1 k2 k3 hb13 hb4
  go_wp2
  go_ret
  exact ⟨rfl, hb14.alloc hb14.size _⟩
end Go.Proofs.Ytnieceplfjmocaa
