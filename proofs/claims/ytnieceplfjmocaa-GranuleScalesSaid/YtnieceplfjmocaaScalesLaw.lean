/-
  The walk of GranuleScales.
-/
import Derived.Test.YtnieceplfjmocaaScaleAny
import Derived.Test.YtnieceplfjmocaaOrderLaw
import Derived.Test.YtnieceplfjmocaaOfLaw
import Derived.Test.YtnieceplfjmocaaEql
namespace Go.Proofs.Ytnieceplfjmocaa
open Go.RowKit Go.BigFrame

attribute [local go_sem ↓] eql_span

set_option maxRecDepth 20000 in
set_option maxHeartbeats 8000000 in
theorem scales_walk (o p n k : Int) (A : Option Addr) (c : Nat) (l : List Sp) (w : World) (h : SpsR w A l) (hn : l.length ≤ maxLen) (hk2 : n ≤ 9223372036854775807) :
    Calls Try.prog 9 #[.agg #[.int .i64 o, .int .i64 p, .slice A l.length c], .int .i64 n, .int .i64 k] w fun e w' => e = .returned (.bool true) ∧ Below w.heap.size w w' := by
  have HN := Lib.hid hn
  have hW := (Below.refl w.heap.size w).alloc (Nat.le_refl _) (.cells #[.int .i64 o, .int .i64 p, .slice A l.length c] 24)
  have K0 := Lib.hid (((Kp.sps h).alloc (.cells #[.int .i64 o, .int .i64 p, .slice A l.length c] 24)).and ((Kp.blk (Blk.new w 24 #[.int .i64 o, .int .i64 p, .slice A l.length c])).and (Kp.bel hW)))
  clear h hW hn
  go_enter Try.func9, Try.ntmps9
  go_wp2_with fail
  refine (awake_any _).mono ?_
  rintro e w1 ⟨rfl, hb1⟩
  have K1 := Lib.hid (K0.out.next hb1)
  obtain ⟨-, hC, -⟩ := K1.out.now
  have g0 := hC.cell 0; have g1 := hC.cell 1; have g2 := hC.cell 2; simp at g0 g1 g2
  clear K0 hb1 hC
  by_cases hf : 5001 < l.length
  · go_wp2_with fail
    refine (few_at _ HN.out (decide_eq_false (by omega))).mono ?_
    rintro e w2 ⟨rfl, hb2⟩
    have K2 := K1.out.next hb2
    go_wp2
    go_ret
    exact ⟨rfl, K2.now.2.2⟩
  go_wp2_with fail
  refine (few_at _ HN.out (decide_eq_true (by omega))).mono ?_
  rintro e w2 ⟨rfl, hb2⟩
  have K2 := Lib.hid (K1.out.next hb2)
  clear K1 hb2 g0 g1 g2
  obtain ⟨-, hC, -⟩ := K2.out.now
  have g0 := hC.cell 0; have g1 := hC.cell 1; have g2 := hC.cell 2; simp at g0 g1 g2
  clear hC
  obtain ⟨O, P, L, E, hr⟩ : ∃ O P L E, scO o p l n = O ∧ scP o p l n = P ∧ scL o p l n = L ∧ scE o p l n = E := ⟨_, _, _, _, rfl, rfl, rfl, rfl⟩
  have HR := Lib.hid hr
  have HS1 : Hid (∀ w, SpsR w A l → Calls Try.prog 34 #[.agg #[.int .i64 o, .int .i64 p, .slice A l.length c], .int .i64 n] w fun e w' => CalE e w' w.heap.size O P L E ∧ Below w.heap.size w w') := Lib.hid (by
    obtain ⟨rfl, rfl, rfl, rfl⟩ := hr; exact fun w hw => scale_any o p n A c l w hw HN.out hk2)
  have HS2 : Hid (∀ w, SpsR w A l → Calls Try.prog 35 #[.agg #[.int .i64 o, .int .i64 p, .slice A l.length c], .int .i64 n] w fun e w' => CalE e w' w.heap.size O P L E ∧ Below w.heap.size w w') := Lib.hid (by
    obtain ⟨rfl, rfl, rfl, rfl⟩ := hr; exact fun w hw => rscale_any o p n A c l w hw HN.out)
  clear hr
  go_wp2_with fail
  refine (HS1.out _ K2.out.now.1).mono ?_
  rintro e w3 ⟨⟨A3, c3, rfl, hs3, hl3, hm3, -⟩, hb3⟩
  have K3 := Lib.hid ((((K2.out.next hb3).and (Kp.sps hs3)).alloc (.cells #[.int .i64 O, .int .i64 P, .slice A3 L.length c3] 24)).and (Kp.blk (Blk.new w3 24 #[.int .i64 O, .int .i64 P, .slice A3 L.length c3])))
  clear K2 hb3 hs3 g0 g1 g2
  obtain ⟨⟨⟨-, hC, -⟩, -⟩, -⟩ := K3.out.now
  have g0 := hC.cell 0; have g1 := hC.cell 1; have g2 := hC.cell 2; simp at g0 g1 g2
  clear hC
  go_wp2_with fail
  refine (HS2.out _ K3.out.now.1.1.1).mono ?_
  rintro e w4 ⟨⟨A4, c4, rfl, hs4, hl4, hm4, -⟩, hb4⟩
  have K4 := Lib.hid ((K3.out.next hb4).alloc (.cells #[.int .i64 O, .int .i64 P, .slice A4 L.length c4] 24))
  have HS4 := Lib.hid (hs4.alloc (.cells #[.int .i64 O, .int .i64 P, .slice A4 L.length c4] 24))
  clear K3 hb4 hs4 g0 g1 g2
  obtain ⟨⟨⟨-, hC, -⟩, -⟩, hD⟩ := K4.out.now
  have g0 := hC.cell 0; have g1 := hC.cell 1; have g2 := hC.cell 2; have g3 := hD.cell 0; have g4 := hD.cell 1; have g5 := hD.cell 2; simp at g0 g1 g2 g3 g4 g5
  clear hC hD
  have n1 : (E != E) = false := by simp
  go_wp2_with fail
  refine (sameC_at _ K4.out.now.1.2 HS4.out hl3 hm3).mono ?_
  rintro e w5 ⟨rfl, hb5⟩
  have K5 := Lib.hid (K4.out.next hb5)
  clear K4 HS4 hb5 g0 g1 g2 g3 g4 g5 HS1 HS2 n1
  obtain ⟨⟨⟨-, hC, -⟩, -⟩, hD⟩ := K5.out.now
  have g0 := hC.cell 0; have g1 := hC.cell 1; have g2 := hC.cell 2; have g3 := hD.cell 0; have g4 := hD.cell 1; have g5 := hD.cell 2; simp at g0 g1 g2 g3 g4 g5
  clear hC hD
  by_cases e1 : E ≠ 0
  · have x1 : (E != 0) = true := by simpa using e1
    go_wp2
    go_ret
    exact ⟨rfl, K5.out.now.1.1.2.2⟩
  have x1 : (E != 0) = false := by simpa using e1
  by_cases k1 : (1048576 : Int) < k
  · have d1 : decide ((1048576 : Int) < k) = true := decide_eq_true k1
    go_wp2
    go_ret
    exact ⟨rfl, K5.out.now.1.1.2.2⟩
  have d1 : decide ((1048576 : Int) < k) = false := decide_eq_false k1
  by_cases k2 : k < (-1048576 : Int)
  · have d2 : decide (k < (-1048576 : Int)) = true := decide_eq_true k2
    go_wp2
    go_ret
    exact ⟨rfl, K5.out.now.1.1.2.2⟩
  have d2 : decide (k < (-1048576 : Int)) = false := decide_eq_false k2
  have hE : E = 0 := by omega
  subst hE
  obtain ⟨r1, r2, r3, r4⟩ := HR.out
  obtain ⟨hv, hn1, hpn, hhalf, hnb⟩ := sc_parts r4
  have hd := Vd.of hv
  obtain ⟨s1, s2, s3⟩ := sc_ok r4
  rw [s1] at r1
  rw [s2] at r2
  rw [s3] at r3
  have hsv := (sc_valid hd hn1 hpn hhalf).back
  have hat := sc_at o p n hd.n0 k
  rw [r1, r2, r3] at hsv hat
  have HSV := Lib.hid hsv
  have hLn : L.length ≤ maxLen := by rw [← r3, scl_len]; exact HN.out
  have HLN := Lib.hid hLn
  obtain ⟨a, b, F, hs⟩ : ∃ a b F, spanF o p l k = a ∧ spanT o p l k = b ∧ spanE o p l k = F := ⟨_, _, _, rfl, rfl, rfl⟩
  obtain ⟨a', b', F', hs'⟩ : ∃ a b F, spanF O P L k = a ∧ spanT O P L k = b ∧ spanE O P L k = F := ⟨_, _, _, rfl, rfl, rfl⟩
  have HAB : Hid (F = 0 → F' = 0 → a' = a * n ∧ b' = b * n ∧ (-4398046511104 ≤ a' ∧ a' ≤ 4398046511104 ∧ -4398046511104 ≤ b' ∧ b' ≤ 4398046511104)) := Lib.hid (fun h1 h2 => by
    have z1 := spanE_zero (by rw [hs.2.2]; exact h1)
    have z2 := spanE_zero (by rw [hs'.2.2]; exact h2)
    have l1 := lineB_iff.1 z2.2.1
    have l2 := lineB_iff.1 z2.2.2.1
    have e1 := z1.2.2.2.1; have e2 := z1.2.2.2.2; have e3 := z2.2.2.2.1; have e4 := z2.2.2.2.2
    rw [hs.1] at e1; rw [hs.2.1] at e2; rw [hs'.1] at e3; rw [hs'.2.1] at e4
    rw [e3, e4, e1, e2, hat.1, hat.2]
    rw [hat.1] at l1; rw [hat.2] at l2
    exact ⟨rfl, rfl, by omega⟩)
  have HS := Lib.hid hs
  have HSS := Lib.hid hs'
  clear hs hs' hat hsv hd hv hhalf r1 r2 r3 s1 s2 s3 r4 HR hLn e1 k1 k2 hpn
  have q1 : -1048576 ≤ k := by simpa using d2
  have q2 : k ≤ 1048576 := by simpa using d1
  go_wp2_with fail
  refine (spanC_at _ K5.out.now.1.1.1 HN.out (by omega) (by omega) HS.out).mono ?_
  rintro e w6 ⟨rfl, hb6⟩
  have K6 := Lib.hid (((K5.out.next hb6).alloc (.cells #[.int .i64 a, .int .i64 b] 28)).and (Kp.blk (Blk.new w6 28 #[.int .i64 a, .int .i64 b])))
  clear K5 hb6 g0 g1 g2 g3 g4 g5
  obtain ⟨⟨⟨⟨-, -⟩, -⟩, hD⟩, -⟩ := K6.out.now
  have g3 := hD.cell 0; have g4 := hD.cell 1; have g5 := hD.cell 2; simp at g3 g4 g5
  clear hD
  go_wp2_with fail
  refine (spanC_at _ K6.out.now.1.1.2 HLN.out (by omega) (by omega) HSS.out).mono ?_
  rintro e w7 ⟨rfl, hb7⟩
  have K7 := Lib.hid (((K6.out.next hb7).alloc (.cells #[.int .i64 a', .int .i64 b'] 28)).and (Kp.blk (Blk.new w7 28 #[.int .i64 a', .int .i64 b'])))
  clear K6 hb7 g3 g4 g5
  obtain ⟨⟨⟨⟨⟨-, -, hW⟩, -⟩, hD⟩, hX⟩, hY⟩ := K7.out.now
  have g3 := hD.cell 0; have g4 := hD.cell 1; have g5 := hD.cell 2; have g6 := hX.cell 0; have g7 := hX.cell 1; have g8 := hY.cell 0; have g9 := hY.cell 1; simp at g3 g4 g5 g6 g7 g8 g9
  have HW := Lib.hid hW
  clear hD hX hY hW
  by_cases f1 : F ≠ 0
  · have x1 : (F != 0) = true := by simpa using f1
    go_wp2
    go_ret
    exact ⟨rfl, HW.out⟩
  by_cases f2 : F' ≠ 0
  · have x1 : (F != 0) = false := by simpa using f1
    have x2 : (F' != 0) = true := by simpa using f2
    go_wp2
    go_ret
    exact ⟨rfl, HW.out⟩
  have f1 : F = 0 := by omega
  have f2 : F' = 0 := by omega
  obtain ⟨e1, e2, b1, b2, b3, b4⟩ := HAB.out f1 f2
  have x1 : (F != 0) = false := by simpa using f1
  have x2 : (F' != 0) = false := by simpa using f2
  clear f1 f2
  subst e1
  subst e2
  go_wp2_with fail
  refine (valid_at _ K7.out.now.1.1.1.2 HLN.out HSV.out).mono ?_
  rintro e w8 ⟨rfl, hb8⟩
  have K8 := Lib.hid (K7.out.next hb8)
  clear K7 HW hb8 g3 g4 g5 g6 g7 g8 g9
  obtain ⟨⟨⟨⟨⟨-, -, hW⟩, -⟩, -⟩, hX⟩, hY⟩ := K8.out.now
  have g6 := hX.cell 0; have g7 := hX.cell 1; have g8 := hY.cell 0; have g9 := hY.cell 1; simp at g6 g7 g8 g9
  have HW := Lib.hid hW
  clear hX hY hW
  have n1 : (a * n == a * n) = true := by simp
  have n2 : (b * n == b * n) = true := by simp
  go_wp2
  go_ret
  exact ⟨rfl, HW.out⟩
end Go.Proofs.Ytnieceplfjmocaa
