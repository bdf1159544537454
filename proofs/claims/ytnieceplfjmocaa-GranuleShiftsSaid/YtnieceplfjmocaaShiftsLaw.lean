/-
  The walk of GranuleShifts.
-/
import Derived.Test.YtnieceplfjmocaaRShiftAny
import Derived.Test.YtnieceplfjmocaaOrderLaw
import Derived.Test.YtnieceplfjmocaaOfLaw
import Derived.Test.YtnieceplfjmocaaEqual
namespace Go.Proofs.Ytnieceplfjmocaa
open Go.RowKit Go.BigFrame

theorem sh_span {o p n k : Int} {l : List Sp} (hv : validB o p l = true) (hh : halfB (atF o p l n) = true) :
    spanF (atF o p l n) p (shl o p l n) k = spanF o p l (k + n) ∧ spanT (atF o p l n) p (shl o p l n) k = spanT o p l (k + n) ∧ spanE (atF o p l n) p (shl o p l n) k = spanE o p l (k + n) := by
  have hd := Vd.of hv
  obtain ⟨e1, e2⟩ := sh_at o p hd.n0 n k
  have e3 : n + k = k + n := by omega
  rw [e3] at e1 e2
  have h1 : onB (atF o p l n) p (shl o p l n) k = onB o p l (k + n) := by rw [onB, onB, e1, e2]
  have h2 : spanE (atF o p l n) p (shl o p l n) k = spanE o p l (k + n) := by rw [spanE, spanE, h1, hv, (sh_valid hd hh).back]
  exact ⟨by rw [spanF, spanF, h2, e1], by rw [spanT, spanT, h2, e2], h2⟩

theorem eqC_self {o p : Int} {l : List Sp} (hv : validB o p l = true) : eqC o p l o p l = true := by simp [eqC, hv]

attribute [local go_sem ↓] eql_span

set_option maxRecDepth 20000 in
set_option maxHeartbeats 8000000 in
theorem shifts_walk (o p n k : Int) (A : Option Addr) (c : Nat) (l : List Sp) (w : World) (h : SpsR w A l) (hn : l.length ≤ maxLen) (hk1 : -9223372036854775808 ≤ n) (hk2 : n ≤ 9223372036854775807) :
    Calls Try.prog 6 #[.agg #[.int .i64 o, .int .i64 p, .slice A l.length c], .int .i64 n, .int .i64 k] w fun e w' => e = .returned (.bool true) ∧ Below w.heap.size w w' := by
  have HN := Lib.hid hn
  have hW := (Below.refl w.heap.size w).alloc (Nat.le_refl _) (.cells #[.int .i64 o, .int .i64 p, .slice A l.length c] 24)
  have K0 := Lib.hid (((Kp.sps h).alloc (.cells #[.int .i64 o, .int .i64 p, .slice A l.length c] 24)).and ((Kp.blk (Blk.new w 24 #[.int .i64 o, .int .i64 p, .slice A l.length c])).and (Kp.bel hW)))
  clear h hW hn
  go_enter Try.func6, Try.ntmps6
  go_wp2_with fail
  refine (awake_any _).mono ?_
  rintro e w1 ⟨rfl, hb1⟩
  have K1 := Lib.hid (K0.out.next hb1)
  obtain ⟨-, hC, -⟩ := K1.out.now
  have g0 := hC.cell 0; have g1 := hC.cell 1; have g2 := hC.cell 2; simp at g0 g1 g2
  clear K0 hb1 hC
  by_cases hf : 5001 < l.length
  · go_wp2_with fail
    refine (few_at _ HN.out (decide_eq_false (by omega))).mono ?_
    rintro e w2 ⟨rfl, hb2⟩
    have K2 := K1.out.next hb2
    go_wp2
    go_ret
    exact ⟨rfl, K2.now.2.2⟩
  go_wp2_with fail
  refine (few_at _ HN.out (decide_eq_true (by omega))).mono ?_
  rintro e w2 ⟨rfl, hb2⟩
  have K2 := Lib.hid (K1.out.next hb2)
  clear K1 hb2 g0 g1 g2
  obtain ⟨-, hC, -⟩ := K2.out.now
  have g0 := hC.cell 0; have g1 := hC.cell 1; have g2 := hC.cell 2; simp at g0 g1 g2
  clear hC
  obtain ⟨O, P, L, E, hr⟩ : ∃ O P L E, shO o p l n = O ∧ shP o p l n = P ∧ shL o p l n = L ∧ shE o p l n = E := ⟨_, _, _, _, rfl, rfl, rfl, rfl⟩
  have HR := Lib.hid hr
  have HS1 : Hid (∀ w, SpsR w A l → Calls Try.prog 26 #[.agg #[.int .i64 o, .int .i64 p, .slice A l.length c], .int .i64 n] w fun e w' => CalE e w' w.heap.size O P L E ∧ Below w.heap.size w w') := Lib.hid (by
    obtain ⟨rfl, rfl, rfl, rfl⟩ := hr; exact fun w hw => shift_any o p n A c l w hw HN.out hk1 hk2)
  have HS2 : Hid (∀ w, SpsR w A l → Calls Try.prog 27 #[.agg #[.int .i64 o, .int .i64 p, .slice A l.length c], .int .i64 n] w fun e w' => CalE e w' w.heap.size O P L E ∧ Below w.heap.size w w') := Lib.hid (by
    obtain ⟨rfl, rfl, rfl, rfl⟩ := hr; exact fun w hw => rshift_any o p n A c l w hw HN.out hk1 hk2)
  clear hr
  go_wp2_with fail
  refine (HS1.out _ K2.out.now.1).mono ?_
  rintro e w3 ⟨⟨A3, c3, rfl, hs3, hl3, hm3, -⟩, hb3⟩
  have K3 := Lib.hid ((((K2.out.next hb3).and (Kp.sps hs3)).alloc (.cells #[.int .i64 O, .int .i64 P, .slice A3 L.length c3] 24)).and (Kp.blk (Blk.new w3 24 #[.int .i64 O, .int .i64 P, .slice A3 L.length c3])))
  clear K2 hb3 hs3 g0 g1 g2
  obtain ⟨⟨⟨-, hC, -⟩, -⟩, -⟩ := K3.out.now
  have g0 := hC.cell 0; have g1 := hC.cell 1; have g2 := hC.cell 2; simp at g0 g1 g2
  clear hC
  go_wp2_with fail
  refine (HS2.out _ K3.out.now.1.1.1).mono ?_
  rintro e w4 ⟨⟨A4, c4, rfl, hs4, hl4, hm4, -⟩, hb4⟩
  have K4 := Lib.hid ((K3.out.next hb4).alloc (.cells #[.int .i64 O, .int .i64 P, .slice A4 L.length c4] 24))
  have HS4 := Lib.hid (hs4.alloc (.cells #[.int .i64 O, .int .i64 P, .slice A4 L.length c4] 24))
  clear K3 hb4 hs4 g0 g1 g2
  obtain ⟨⟨⟨-, hC, -⟩, -⟩, hD⟩ := K4.out.now
  have g0 := hC.cell 0; have g1 := hC.cell 1; have g2 := hC.cell 2; have g3 := hD.cell 0; have g4 := hD.cell 1; have g5 := hD.cell 2; simp at g0 g1 g2 g3 g4 g5
  clear hC hD
  have n1 : (E != E) = false := by simp
  go_wp2_with fail
  refine (sameC_at _ K4.out.now.1.2 HS4.out hl3 hm3).mono ?_
  rintro e w5 ⟨rfl, hb5⟩
  have K5 := Lib.hid (K4.out.next hb5)
  clear K4 HS4 hb5 g0 g1 g2 g3 g4 g5 HS1 HS2 n1
  obtain ⟨⟨⟨-, hC, -⟩, -⟩, hD⟩ := K5.out.now
  have g0 := hC.cell 0; have g1 := hC.cell 1; have g2 := hC.cell 2; have g3 := hD.cell 0; have g4 := hD.cell 1; have g5 := hD.cell 2; simp at g0 g1 g2 g3 g4 g5
  clear hC hD
  by_cases e1 : E ≠ 0
  · have x1 : (E != 0) = true := by simpa using e1
    go_wp2
    go_ret
    exact ⟨rfl, K5.out.now.1.1.2.2⟩
  have x1 : (E != 0) = false := by simpa using e1
  by_cases k1 : (1099511627776 : Int) < k
  · have d1 : decide ((1099511627776 : Int) < k) = true := decide_eq_true k1
    go_wp2
    go_ret
    exact ⟨rfl, K5.out.now.1.1.2.2⟩
  have d1 : decide ((1099511627776 : Int) < k) = false := decide_eq_false k1
  by_cases k2 : k < (-1099511627776 : Int)
  · have d2 : decide (k < (-1099511627776 : Int)) = true := decide_eq_true k2
    go_wp2
    go_ret
    exact ⟨rfl, K5.out.now.1.1.2.2⟩
  have d2 : decide (k < (-1099511627776 : Int)) = false := decide_eq_false k2
  by_cases k3 : (35184372088832 : Int) < n
  · have d3 : decide ((35184372088832 : Int) < n) = true := decide_eq_true k3
    go_wp2
    go_ret
    exact ⟨rfl, K5.out.now.1.1.2.2⟩
  have d3 : decide ((35184372088832 : Int) < n) = false := decide_eq_false k3
  by_cases k4 : n < (-35184372088832 : Int)
  · have d4 : decide (n < (-35184372088832 : Int)) = true := decide_eq_true k4
    go_wp2
    go_ret
    exact ⟨rfl, K5.out.now.1.1.2.2⟩
  have d4 : decide (n < (-35184372088832 : Int)) = false := decide_eq_false k4
  have hE : E = 0 := by omega
  subst hE
  obtain ⟨r1, r2, r3, r4⟩ := HR.out
  have hvh : validB o p l = true ∧ halfB (atF o p l n) = true := by
    cases hv : validB o p l with
    | false => rw [(sh_inv (n := n) hv).1] at r4; cases r4
    | true =>
      cases hh : halfB (atF o p l n) with
      | false => rw [(sh_far hv hh).1] at r4; cases r4
      | true => exact ⟨rfl, rfl⟩
  obtain ⟨hv, hh⟩ := hvh
  have hd := Vd.of hv
  obtain ⟨-, s1, s2, s3⟩ := sh_ok hv hh
  rw [s1] at r1
  rw [s2] at r2
  rw [s3] at r3
  subst r2
  have hss := sh_span (k := k) hv hh
  have hsv := (sh_valid hd hh).back
  have hbk := sh_back hd n
  rw [r1, r3] at hss hsv hbk
  have HSV := Lib.hid hsv
  have HEQ := Lib.hid (eqC_self hv)
  have hLn : L.length ≤ maxLen := by omega
  have HLN := Lib.hid hLn
  have HBK : Hid (∀ w c, SpsR w A3 L → Calls Try.prog 26 #[.agg #[.int .i64 O, .int .i64 p, .slice A3 L.length c], .int .i64 (-n)] w fun e w' => CalE e w' w.heap.size o p l 0 ∧ Below w.heap.size w w') := Lib.hid (fun w c hw => by
    have := shift_ok O p (-n) A3 c L w hw hsv (by rw [hbk.1]; exact halfB_iff.2 ⟨hd.o1, hd.o2⟩)
    rw [hbk.1, hbk.2] at this
    exact this)
  obtain ⟨a, b, F, hs⟩ : ∃ a b F, spanF o p l (k + n) = a ∧ spanT o p l (k + n) = b ∧ spanE o p l (k + n) = F := ⟨_, _, _, rfl, rfl, rfl⟩
  rw [hs.1, hs.2.1, hs.2.2] at hss
  have HS := Lib.hid hs
  have HSS := Lib.hid hss
  clear hs hss hbk hsv hd hv hh r1 r3 s1 s2 s3 r4 HR hLn e1 k1 k2
  have q1 : -1099511627776 ≤ k := by simpa using d2
  have q2 : k ≤ 1099511627776 := by simpa using d1
  go_wp2_with fail
  refine (spanC_at _ K5.out.now.1.2 HLN.out (by omega) (by omega) HSS.out).mono ?_
  rintro e w6 ⟨rfl, hb6⟩
  have K6 := Lib.hid (((K5.out.next hb6).alloc (.cells #[.int .i64 a, .int .i64 b] 28)).and (Kp.blk (Blk.new w6 28 #[.int .i64 a, .int .i64 b])))
  clear K5 hb6 g0 g1 g2 g3 g4 g5
  obtain ⟨⟨⟨⟨-, hC, -⟩, -⟩, -⟩, -⟩ := K6.out.now
  have g0 := hC.cell 0; have g1 := hC.cell 1; have g2 := hC.cell 2; simp at g0 g1 g2
  clear hC
  go_wp2_with fail
  refine (spanC_at _ K6.out.now.1.1.1.1 HN.out (by omega) (by omega) HS.out).mono ?_
  rintro e w7 ⟨rfl, hb7⟩
  have K7 := Lib.hid (((K6.out.next hb7).alloc (.cells #[.int .i64 a, .int .i64 b] 28)).and (Kp.blk (Blk.new w7 28 #[.int .i64 a, .int .i64 b])))
  clear K6 hb7 g0 g1 g2
  obtain ⟨⟨⟨⟨-, -⟩, hD⟩, -⟩, -⟩ := K7.out.now
  have g3 := hD.cell 0; have g4 := hD.cell 1; have g5 := hD.cell 2; simp at g3 g4 g5
  clear hD
  go_wp2_with fail
  refine (HBK.out _ _ K7.out.now.1.1.1.2).mono ?_
  rintro e w8 ⟨⟨A8, c8, rfl, hs8, hl8, hm8, -⟩, hb8⟩
  have K8 := Lib.hid ((((K7.out.next hb8).and (Kp.sps hs8)).alloc (.cells #[.int .i64 o, .int .i64 p, .slice A8 l.length c8] 24)).and (Kp.blk (Blk.new w8 24 #[.int .i64 o, .int .i64 p, .slice A8 l.length c8])))
  clear K7 hb8 hs8 g3 g4 g5
  obtain ⟨⟨⟨⟨⟨-, hD⟩, -⟩, -⟩, -⟩, -⟩ := K8.out.now
  have g3 := hD.cell 0; have g4 := hD.cell 1; have g5 := hD.cell 2; simp at g3 g4 g5
  clear hD
  have n2 : (F == F) = true := by simp
  have n3 : (a == a) = true := by simp
  have n4 : (b == b) = true := by simp
  go_wp2_with fail
  refine (valid_at _ K8.out.now.1.1.1.1.1.2 HLN.out HSV.out).mono ?_
  rintro e w9 ⟨rfl, hb9⟩
  have K9 := Lib.hid (K8.out.next hb9)
  clear K8 hb9 g3 g4 g5
  obtain ⟨⟨⟨⟨⟨⟨⟨-, hC, -⟩, -⟩, -⟩, hX⟩, hY⟩, -⟩, hZ⟩ := K9.out.now
  have g0 := hC.cell 0; have g1 := hC.cell 1; have g2 := hC.cell 2; have g3 := hX.cell 0; have g4 := hX.cell 1; have g5 := hY.cell 0; have g6 := hY.cell 1; have g7 := hZ.cell 0; have g8 := hZ.cell 1; have g9 := hZ.cell 2; simp at g0 g1 g2 g3 g4 g5 g6 g7 g8 g9
  clear hC hX hY hZ
  go_wp2_with fail
  refine (gequal_at _ K9.out.now.1.2 K9.out.now.1.1.1.1.1.1.1 HN.out HN.out HEQ.out).mono ?_
  rintro e w10 ⟨rfl, hb10⟩
  have K10 := K9.out.next hb10
  go_wp2
  go_ret
  exact ⟨rfl, K10.now.1.1.1.1.1.1.2.2⟩
end Go.Proofs.Ytnieceplfjmocaa
