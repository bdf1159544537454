/-
  The walk of GranuleOrder.
-/
import Derived.Test.YtnieceplfjmocaaOrd
import Derived.Test.YtnieceplfjmocaaKeep
import Derived.Test.YtnieceplfjmocaaSpansLaw
namespace Go.Proofs.Ytnieceplfjmocaa
open Go.RowKit Go.BigFrame

theorem findC_at {o p x : Int} {A : Option Addr} {c : Nat} {l : List Sp} {n : Int} {v : Bool} (w : World) (h : SpsR w A l) (hn : l.length ≤ maxLen) (hf : findB o p l x = v ∧ findN o p l x = n) :
    Calls Try.prog 29 #[.agg #[.int .i64 o, .int .i64 p, .slice A l.length c], .int .i64 x] w fun e w' => e = .returned (.tuple #[.int .i64 n, .bool v]) ∧ Below w.heap.size w w' := by
  obtain ⟨rfl, rfl⟩ := hf
  exact find_any o p x A c l w h hn
theorem nearC_at {o p x : Int} {A : Option Addr} {c : Nat} {l : List Sp} {n : Int} (w : World) (h : SpsR w A l) (hn : l.length ≤ maxLen) (hf : nearR o p l x = n) :
    Calls Try.prog 31 #[.agg #[.int .i64 o, .int .i64 p, .slice A l.length c], .int .i64 x] w fun e w' => e = .returned (.int .i64 n) ∧ Below w.heap.size w w' := hf ▸ near_any o p x A c l w h hn
/-- Span's answer under names -/
theorem spanC_at {o p k a b E : Int} {A : Option Addr} {c : Nat} {l : List Sp} (w : World) (h : SpsR w A l) (hn : l.length ≤ maxLen) (hk1 : -9223372036854775808 ≤ k) (hk2 : k ≤ 9223372036854775807) (hs : spanF o p l k = a ∧ spanT o p l k = b ∧ spanE o p l k = E) :
    Calls Try.prog 17 #[.agg #[.int .i64 o, .int .i64 p, .slice A l.length c], .int .i64 k] w fun e w' => e = .returned (.tuple #[.agg #[.int .i64 a, .int .i64 b], .int .i64 E]) ∧ Below w.heap.size w w' := by
  obtain ⟨rfl, rfl, rfl⟩ := hs
  exact span_any o p k A c l w h hn hk1 hk2

set_option maxRecDepth 20000 in
set_option maxHeartbeats 8000000 in
theorem order_walk (o p k : Int) (A : Option Addr) (c : Nat) (l : List Sp) (w : World) (h : SpsR w A l) (hn : l.length ≤ maxLen) :
    Calls Try.prog 8 #[.agg #[.int .i64 o, .int .i64 p, .slice A l.length c], .int .i64 k] w fun e w' => e = .returned (.bool true) ∧ Below w.heap.size w w' := by
  have HN := Lib.hid hn
  have hW := (Below.refl w.heap.size w).alloc (Nat.le_refl _) (.cells #[.int .i64 o, .int .i64 p, .slice A l.length c] 24)
  have K0 := Lib.hid (((Kp.sps h).alloc (.cells #[.int .i64 o, .int .i64 p, .slice A l.length c] 24)).and ((Kp.blk (Blk.new w 24 #[.int .i64 o, .int .i64 p, .slice A l.length c])).and (Kp.bel hW)))
  have hn' : (l.length : Int) ≤ 9223372036854775807 := by have : l.length ≤ maxLen := hn; simp only [maxLen] at this; omega
  clear h hW hn
  go_enter Try.func8, Try.ntmps8
  go_wp2_with fail
  refine (awake_any _).mono ?_
  rintro e w1 ⟨rfl, hb1⟩
  have K1 := Lib.hid (K0.out.next hb1)
  obtain ⟨-, hC, -⟩ := K1.out.now
  have g0 := hC.cell 0; have g1 := hC.cell 1; have g2 := hC.cell 2; simp at g0 g1 g2
  clear K0 hb1 hC
  by_cases c1 : (300 : Int) < (l.length : Int)
  · have d1 : decide ((300 : Int) < (l.length : Int)) = true := decide_eq_true c1
    go_wp2
    go_ret
    exact ⟨rfl, K1.out.now.2.2⟩
  have d1 : decide ((300 : Int) < (l.length : Int)) = false := decide_eq_false c1
  by_cases c2 : (1099511627776 : Int) < k
  · have d2 : decide ((1099511627776 : Int) < k) = true := decide_eq_true c2
    go_wp2
    go_ret
    exact ⟨rfl, K1.out.now.2.2⟩
  have d2 : decide ((1099511627776 : Int) < k) = false := decide_eq_false c2
  by_cases c3 : k < (-1099511627776 : Int)
  · have d3 : decide (k < (-1099511627776 : Int)) = true := decide_eq_true c3
    go_wp2
    go_ret
    exact ⟨rfl, K1.out.now.2.2⟩
  have d3 : decide (k < (-1099511627776 : Int)) = false := decide_eq_false c3
  have k1 : -1099511627776 ≤ k := by omega
  have k2 : k ≤ 1099511627776 := by omega
  have hl3 : l.length ≤ 300 := by omega
  clear c1 c2 c3
  obtain ⟨a, b, E, hs⟩ : ∃ a b E, spanF o p l k = a ∧ spanT o p l k = b ∧ spanE o p l k = E := ⟨_, _, _, rfl, rfl, rfl⟩
  obtain ⟨a', b', E', hs'⟩ : ∃ a b E, spanF o p l (k + 1) = a ∧ spanT o p l (k + 1) = b ∧ spanE o p l (k + 1) = E := ⟨_, _, _, rfl, rfl, rfl⟩
  have HSP := Lib.hid hs
  have HSP' := Lib.hid hs'
  clear hs hs'
  go_wp2_with fail
  refine (spanC_at _ K1.out.now.1 HN.out (by omega) (by omega) HSP.out).mono ?_
  rintro e w2 ⟨rfl, hb2⟩
  have K2 := Lib.hid (((K1.out.next hb2).alloc (.cells #[.int .i64 a, .int .i64 b] 28)).and (Kp.blk (Blk.new w2 28 #[.int .i64 a, .int .i64 b])))
  clear K1 hb2 g0 g1 g2 d1 d2 d3
  obtain ⟨⟨-, hC, -⟩, hD⟩ := K2.out.now
  have g0 := hC.cell 0; have g1 := hC.cell 1; have g2 := hC.cell 2; simp at g0 g1 g2
  clear hC hD
  go_wp2_with fail
  refine (spanC_at _ K2.out.now.1.1 HN.out (by omega) (by omega) HSP'.out).mono ?_
  rintro e w3 ⟨rfl, hb3⟩
  have K3 := Lib.hid (((K2.out.next hb3).alloc (.cells #[.int .i64 a', .int .i64 b'] 28)).and (Kp.blk (Blk.new w3 28 #[.int .i64 a', .int .i64 b'])))
  clear K2 hb3 g0 g1 g2
  obtain ⟨⟨⟨-, hC, hW3⟩, hD⟩, hD'⟩ := K3.out.now
  have g0 := hC.cell 0; have g1 := hC.cell 1; have g2 := hC.cell 2; have g3 := hD.cell 0; have g4 := hD.cell 1; have g5 := hD'.cell 0; have g6 := hD'.cell 1; simp at g0 g1 g2 g3 g4 g5 g6
  have HW3 := Lib.hid hW3
  clear hC hD hD' hW3
  by_cases e1 : E ≠ 0
  · have x1 : (E != 0) = true := by simpa using e1
    go_wp2
    go_ret
    exact ⟨rfl, HW3.out⟩
  have e1 : E = 0 := by omega
  by_cases e2 : E' ≠ 0
  · have x1 : (E != 0) = false := by simpa using e1
    have x2 : (E' != 0) = true := by simpa using e2
    go_wp2
    go_ret
    exact ⟨rfl, HW3.out⟩
  have e2 : E' = 0 := by omega
  subst e1
  subst e2
  have hz := spanE_zero HSP.out.2.2
  have hz' := spanE_zero HSP'.out.2.2
  have hvd := Vd.of hz.1
  have HV := Lib.hid hz.1
  have HD := Lib.hid hvd
  have ea : atF o p l k = a := hz.2.2.2.1.symm.trans HSP.out.1
  have eb : atT o p l k = b := hz.2.2.2.2.symm.trans HSP.out.2.1
  have ea' : atF o p l (k + 1) = a' := hz'.2.2.2.1.symm.trans HSP'.out.1
  have hlt := at_lt hvd k
  have hnn := near_next hvd k
  rw [ea, eb, ea'] at hlt
  rw [ea'] at hnn
  have la := hz.2.1
  have lb := hz.2.2.1
  have la' := hz'.2.1
  rw [ea] at la
  rw [eb] at lb
  rw [ea'] at la'
  have hla := lineB_iff.1 la
  have hlb := lineB_iff.1 lb
  have hla' := lineB_iff.1 la'
  obtain ⟨a1, a2⟩ := hla
  obtain ⟨b1, b2⟩ := hlb
  obtain ⟨a3, a4⟩ := hla'
  obtain ⟨l1, l2⟩ := hlt
  have HI := Lib.hid (show ivB a b = true from ivB_iff.2 ⟨a1, l1, b2⟩)
  have HNN := Lib.hid (show nearR o p l a' = k + 1 by rw [nearR, hz.1, la']; exact hnn)
  have HIN : Hid (∀ x, a ≤ x → x < b → (findB o p l x = true ∧ findN o p l x = k) ∧ nearR o p l x = k) := Lib.hid (fun x h1 h2 => by
    have := find_in (k := k) hz.1 (lineB_iff.2 ⟨by omega, by omega⟩) (by omega) (show x < atT o p l k by omega)
    exact ⟨⟨this.1, this.2.1⟩, this.2.2⟩)
  have HOUT : Hid (∀ x, b ≤ x → x < a' → (findB o p l x = false ∧ findN o p l x = 0) ∧ nearR o p l x = k) := Lib.hid (fun x h1 h2 => by
    have := find_out (k := k) hz.1 (lineB_iff.2 ⟨by omega, by omega⟩) (by omega) (show x < atF o p l (k + 1) by omega)
    exact ⟨⟨this.1, this.2.1⟩, this.2.2⟩)
  clear hz hz' hvd ea eb ea' hnn la lb la' HSP HSP'
  have x1 : decide (a' < b) = false := decide_eq_false (by omega)
  go_wp2_with fail
  refine (ivalid_at HI.out _).mono ?_
  rintro e w4 ⟨rfl, hb4⟩
  have K4 := Lib.hid (K3.out.next hb4)
  clear K3 HW3 hb4 g0 g1 g2 g3 g4 g5 g6
  obtain ⟨⟨⟨-, hC, -⟩, hD⟩, hD'⟩ := K4.out.now
  have g3 := hD.cell 0; have g4 := hD.cell 1; have g5 := hD'.cell 0; simp at g3 g4 g5
  clear hC hD hD'
  go_wp2_with fail
  have hm : a ≤ a + (b - a) / 2 ∧ a + (b - a) / 2 < b := by omega
  obtain ⟨m, hmm⟩ : ∃ m, a + (b - a) / 2 = m := ⟨_, rfl⟩
  rw [hmm] at hm ⊢
  obtain ⟨m1, m2⟩ := hm
  obtain ⟨b', hbb⟩ : ∃ b', b - 1 = b' := ⟨_, rfl⟩
  rw [hbb]
  have HX : Hid (∀ j, j < 3 → ∃ X, (#[Value.int IntKind.i64 a, Value.int IntKind.i64 b', Value.int IntKind.i64 m] : Array Value)[j]? = some (.int .i64 X) ∧ (findB o p l X = true ∧ findN o p l X = k) ∧ nearR o p l X = k) := Lib.hid (fun j hj => by
    match j, hj with
    | 0, _ => exact ⟨a, rfl, HIN.out a (by omega) (by omega)⟩
    | 1, _ => exact ⟨b', rfl, HIN.out b' (by omega) (by omega)⟩
    | 2, _ => exact ⟨m, rfl, HIN.out m (by omega) (by omega)⟩)
  have K5 := Lib.hid ((K4.out.alloc (.cells #[.int .i64 a, .int .i64 b', .int .i64 m] 3)).and (Kp.blk (Blk.new w4 3 #[.int .i64 a, .int .i64 b', .int .i64 m])))
  clear K4 g3 g4 g5 HIN hmm hbb m1 m2
  go_loopw [74] (fun x wr => ∃ j : Nat, j ≤ 3 ∧ x = .int .i64 j ∧ Below (w4.alloc (.cells #[.int .i64 a, .int .i64 b', .int .i64 m] 3)).heap.size (w4.alloc (.cells #[.int .i64 a, .int .i64 b', .int .i64 m] 3)) wr) (fun x _ => 3 - (intOf x).toNat)
  case atStart => exact ⟨0, by omega, rfl, Below.refl _ _⟩
  case round =>
    obtain ⟨j, hj, rfl, hbr⟩ := hrel
    have K6 := Lib.hid (K5.out.next hbr)
    have HBR := Lib.hid hbr
    clear K5 hbr
    obtain ⟨⟨⟨⟨-, hC, -⟩, hD⟩, hD'⟩, hX⟩ := K6.out.now
    have g0 := hC.cell 0; have g1 := hC.cell 1; have g2 := hC.cell 2; have g3 := hD.cell 0; have g4 := hD.cell 1; have g5 := hD'.cell 0; simp at g0 g1 g2 g3 g4 g5
    by_cases h3 : j < 3
    · obtain ⟨X, hX1, hX2, hX3⟩ := HX.out j h3
      have g6 := (hX.cell j).trans hX1
      clear hX1 hC hD hD' hX
      have n1 : (k != k) = false := by simp
      go_wp2_with fail
      refine (findC_at _ K6.out.now.1.1.1.1 HN.out hX2).mono ?_
      rintro e w7 ⟨rfl, hb7⟩
      have K7 := Lib.hid (K6.out.next hb7)
      have hbl := hb7
      clear K6 g0 g1 g2 g3 g4 g5 g6
      obtain ⟨⟨⟨⟨-, hC, -⟩, -⟩, -⟩, -⟩ := K7.out.now
      have g0 := hC.cell 0; have g1 := hC.cell 1; have g2 := hC.cell 2; simp at g0 g1 g2
      clear hC
      go_wp2_with fail
      refine (nearC_at _ K7.out.now.1.1.1.1 HN.out hX3).mono ?_
      rintro e w8 ⟨rfl, hb8⟩
      go_wp2
      go_roundw
      case rel => exact ⟨j + 1, by omega, by go_num, HBR.out.trans ((below_next hbl hb8).mono HBR.out.size)⟩
      case measure => simp [intOf]; omega
    · have : j = 3 := by omega
      subst this
      clear HX hD' hX hC hD
      have n1 : (k != k) = false := by simp
      by_cases hgap : b < a'
      · have d1 : decide (b < a') = true := decide_eq_true hgap
        obtain ⟨x, hx⟩ : ∃ x, a' - 1 = x := ⟨_, rfl⟩
        obtain ⟨hO1, hO2⟩ := HOUT.out x (by omega) (by omega)
        go_wp2_with fail
        refine (findC_at _ K6.out.now.1.1.1.1 HN.out hO1).mono ?_
        rintro e w7 ⟨rfl, hb7⟩
        have K7 := Lib.hid (K6.out.next hb7)
        clear K6 hb7 g0 g1 g2 g3 g4 g5
        obtain ⟨⟨⟨⟨-, hC, -⟩, -⟩, hD'⟩, -⟩ := K7.out.now
        have g0 := hC.cell 0; have g1 := hC.cell 1; have g2 := hC.cell 2; have g5 := hD'.cell 0; simp at g0 g1 g2 g5
        clear hC hD'
        go_wp2_with fail
        refine (nearC_at _ K7.out.now.1.1.1.1 HN.out hO2).mono ?_
        rintro e w8 ⟨rfl, hb8⟩
        have K8 := Lib.hid (K7.out.next hb8)
        clear K7 hb8 g0 g1 g2 g5
        obtain ⟨⟨⟨⟨-, hC, -⟩, -⟩, hD'⟩, -⟩ := K8.out.now
        have g0 := hC.cell 0; have g1 := hC.cell 1; have g2 := hC.cell 2; have g5 := hD'.cell 0; simp at g0 g1 g2 g5
        clear hC hD'
        go_wp2_with fail
        refine (nearC_at _ K8.out.now.1.1.1.1 HN.out HNN.out).mono ?_
        rintro e w9 ⟨rfl, hb9⟩
        have K9 := K8.out.next hb9
        go_wp2
        go_ret
        exact ⟨ret_bool (by simp), K9.now.1.1.1.2.2⟩
      · have d1 : decide (b < a') = false := decide_eq_false hgap
        go_wp2_with fail
        refine (nearC_at _ K6.out.now.1.1.1.1 HN.out HNN.out).mono ?_
        rintro e w9 ⟨rfl, hb9⟩
        have K9 := K6.out.next hb9
        go_wp2
        go_ret
        exact ⟨ret_bool (by simp), K9.now.1.1.1.2.2⟩
end Go.Proofs.Ytnieceplfjmocaa
