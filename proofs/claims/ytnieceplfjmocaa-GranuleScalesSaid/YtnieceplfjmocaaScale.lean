/-
  granule.Scale and the reference's: the errors.
-/
import Derived.Test.YtnieceplfjmocaaMul
import Derived.Test.YtnieceplfjmocaaScl
import Derived.Test.YtnieceplfjmocaaShiftM
import Derived.Test.YtnieceplfjmocaaRShift
import Derived.Test.YtnieceplfjmocaaOwn2
namespace Go.Proofs.Ytnieceplfjmocaa
open Go.RowKit Go.BigFrame

theorem sc_inv {o p n : Int} {l : List Sp} (hv : validB o p l = false) : scE o p l n = 1 := by simp [scE, hv]
theorem sc_low {o p n : Int} {l : List Sp} (hv : validB o p l = true) (h : n < 1) : scE o p l n = 2 := by simp [scE, hv, h]
theorem sc_big {o p n : Int} {l : List Sp} (hv : validB o p l = true) (h : ¬ n < 1) (h2 : 12622780800 / p < n) : scE o p l n = 9 := by simp [scE, hv, h, h2]
theorem sc_half {o p n : Int} {l : List Sp} (hv : validB o p l = true) (h : ¬ n < 1) (h2 : ¬ 12622780800 / p < n) (h3 : halfB (o * n) = false) : scE o p l n = 2 := by simp [scE, hv, h, h2, h3]
theorem sc_zero {o p n : Int} {l : List Sp} (hv : validB o p l = true) (h : ¬ n < 1) (h2 : ¬ 12622780800 / p < n) (h3 : halfB (o * n) = true) : scE o p l n = 0 := by simp [scE, hv, h, h2, h3]
theorem fit_half {x : Int} (h : halfB x = true) : fitB x = true := by
  have := halfB_iff.1 h
  simp only [fitB, Bool.and_eq_true, decide_eq_true_eq]; omega


set_option maxHeartbeats 2000000 in
theorem scale_inv (o p n : Int) (A : Option Addr) (c : Nat) (l : List Sp) (w : World) (h : SpsR w A l) (hn : l.length ≤ maxLen) (hv : validB o p l = false) :
    Calls Try.prog 34 #[.agg #[.int .i64 o, .int .i64 p, .slice A l.length c], .int .i64 n] w fun e w' => CalE e w' w.heap.size 0 0 [] 1 ∧ Below w.heap.size w w' := by
  have HN := Lib.hid hn
  have HV := Lib.hid hv
  have hW := ((Below.refl w.heap.size w).alloc (Nat.le_refl _) (.cells #[.int .i64 o, .int .i64 p, .slice A l.length c] 24)).alloc (by simp) (.cells #[.int .i64 0, .int .i64 0, .slice none 0 0] 24)
  have K0 := Lib.hid ((((Kp.sps h).alloc (.cells #[.int .i64 o, .int .i64 p, .slice A l.length c] 24)).alloc (.cells #[.int .i64 0, .int .i64 0, .slice none 0 0] 24)).and (((Kp.blk (Blk.new w 24 #[.int .i64 o, .int .i64 p, .slice A l.length c])).alloc (.cells #[.int .i64 0, .int .i64 0, .slice none 0 0] 24)).and ((Kp.blk (Blk.new (w.alloc (.cells #[.int .i64 o, .int .i64 p, .slice A l.length c] 24)) 24 #[.int .i64 0, .int .i64 0, .slice none 0 0])).and (Kp.bel hW))))
  clear h hW
  go_enter Try.func34, Try.ntmps34
  go_wp2_with fail
  refine (valid_at _ K0.out.now.1 HN.out HV.out).mono ?_
  rintro e w1 ⟨rfl, hb1⟩
  have K1 := Lib.hid (K0.out.next hb1)
  clear K0 hb1
  obtain ⟨hS, hC, hR, hW⟩ := K1.out.now
  have g0 := hC.cell 0; have g1 := hC.cell 1; have g2 := hC.cell 2; have z0 := hR.cell 0; have z1 := hR.cell 1; have z2 := hR.cell 2; have y0 := hR.frozen 0; have y1 := hR.frozen 1; have y2 := hR.frozen 2
  simp at g0 g1 g2 z0 z1 z2 y0 y1 y2
  have hgt := hC.lt
  have hzt := hR.lt
  simp at hzt
  have HW := Lib.hid hW
  have HS := Lib.hid hS
  clear hC hR hW hS
  go_wp2
  refine bodyPost_ret (v := .tuple #[.agg #[.int .i64 0, .int .i64 0, .slice none 0 0], .int .i64 1]) (by simp [results, Try.results34, go_sem, z0, z1, z2]) rfl ⟨CalE.err rfl, ?_⟩
  exact ((HW.out.setCell (by simp) _).setCell (by simp) _).setCell (by simp) _

set_option maxHeartbeats 2000000 in
theorem rscale_inv (o p n : Int) (A : Option Addr) (c : Nat) (l : List Sp) (w : World) (h : SpsR w A l) (hn : l.length ≤ maxLen) (hv : validB o p l = false) :
    Calls Try.prog 35 #[.agg #[.int .i64 o, .int .i64 p, .slice A l.length c], .int .i64 n] w fun e w' => CalE e w' w.heap.size 0 0 [] 1 ∧ Below w.heap.size w w' := by
  have HN := Lib.hid hn
  have HV := Lib.hid hv
  have hW := ((Below.refl w.heap.size w).alloc (Nat.le_refl _) (.cells #[.int .i64 o, .int .i64 p, .slice A l.length c] 24)).alloc (by simp) (.cells #[.int .i64 0, .int .i64 0, .slice none 0 0] 24)
  have K0 := Lib.hid ((((Kp.sps h).alloc (.cells #[.int .i64 o, .int .i64 p, .slice A l.length c] 24)).alloc (.cells #[.int .i64 0, .int .i64 0, .slice none 0 0] 24)).and (((Kp.blk (Blk.new w 24 #[.int .i64 o, .int .i64 p, .slice A l.length c])).alloc (.cells #[.int .i64 0, .int .i64 0, .slice none 0 0] 24)).and ((Kp.blk (Blk.new (w.alloc (.cells #[.int .i64 o, .int .i64 p, .slice A l.length c] 24)) 24 #[.int .i64 0, .int .i64 0, .slice none 0 0])).and (Kp.bel hW))))
  clear h hW
  go_enter Try.func35, Try.ntmps35
  go_wp2_with fail
  refine (rvalidC_at _ K0.out.now.1 HN.out HV.out).mono ?_
  rintro e w1 ⟨rfl, hb1⟩
  have K1 := Lib.hid (K0.out.next hb1)
  clear K0 hb1
  obtain ⟨hS, hC, hR, hW⟩ := K1.out.now
  have g0 := hC.cell 0; have g1 := hC.cell 1; have g2 := hC.cell 2; have z0 := hR.cell 0; have z1 := hR.cell 1; have z2 := hR.cell 2; have y0 := hR.frozen 0; have y1 := hR.frozen 1; have y2 := hR.frozen 2
  simp at g0 g1 g2 z0 z1 z2 y0 y1 y2
  have hgt := hC.lt
  have hzt := hR.lt
  simp at hzt
  have HW := Lib.hid hW
  have HS := Lib.hid hS
  clear hC hR hW hS
  go_wp2
  refine bodyPost_ret (v := .tuple #[.agg #[.int .i64 0, .int .i64 0, .slice none 0 0], .int .i64 1]) (by simp [results, Try.results35, go_sem, z0, z1, z2]) rfl ⟨CalE.err rfl, ?_⟩
  exact ((HW.out.setCell (by simp) _).setCell (by simp) _).setCell (by simp) _

set_option maxHeartbeats 2000000 in
theorem scale_low (o p n : Int) (A : Option Addr) (c : Nat) (l : List Sp) (w : World) (h : SpsR w A l) (hn : l.length ≤ maxLen) (hv : validB o p l = true) (h1 : n < 1) :
    Calls Try.prog 34 #[.agg #[.int .i64 o, .int .i64 p, .slice A l.length c], .int .i64 n] w fun e w' => CalE e w' w.heap.size 0 0 [] 2 ∧ Below w.heap.size w w' := by
  have HN := Lib.hid hn
  have HV := Lib.hid hv
  have d1 : decide (n < 1) = true := decide_eq_true h1
  have hW := ((Below.refl w.heap.size w).alloc (Nat.le_refl _) (.cells #[.int .i64 o, .int .i64 p, .slice A l.length c] 24)).alloc (by simp) (.cells #[.int .i64 0, .int .i64 0, .slice none 0 0] 24)
  have K0 := Lib.hid ((((Kp.sps h).alloc (.cells #[.int .i64 o, .int .i64 p, .slice A l.length c] 24)).alloc (.cells #[.int .i64 0, .int .i64 0, .slice none 0 0] 24)).and (((Kp.blk (Blk.new w 24 #[.int .i64 o, .int .i64 p, .slice A l.length c])).alloc (.cells #[.int .i64 0, .int .i64 0, .slice none 0 0] 24)).and ((Kp.blk (Blk.new (w.alloc (.cells #[.int .i64 o, .int .i64 p, .slice A l.length c] 24)) 24 #[.int .i64 0, .int .i64 0, .slice none 0 0])).and (Kp.bel hW))))
  clear h hW
  go_enter Try.func34, Try.ntmps34
  go_wp2_with fail
  refine (valid_at _ K0.out.now.1 HN.out HV.out).mono ?_
  rintro e w1 ⟨rfl, hb1⟩
  have K1 := Lib.hid (K0.out.next hb1)
  clear K0 hb1
  obtain ⟨hS, hC, hR, hW⟩ := K1.out.now
  have g0 := hC.cell 0; have g1 := hC.cell 1; have g2 := hC.cell 2; have z0 := hR.cell 0; have z1 := hR.cell 1; have z2 := hR.cell 2; have y0 := hR.frozen 0; have y1 := hR.frozen 1; have y2 := hR.frozen 2
  simp at g0 g1 g2 z0 z1 z2 y0 y1 y2
  have hgt := hC.lt
  have hzt := hR.lt
  simp at hzt
  have HW := Lib.hid hW
  have HS := Lib.hid hS
  clear hC hR hW hS
  go_wp2
  refine bodyPost_ret (v := .tuple #[.agg #[.int .i64 0, .int .i64 0, .slice none 0 0], .int .i64 2]) (by simp [results, Try.results34, go_sem, z0, z1, z2]) rfl ⟨CalE.err rfl, ?_⟩
  exact ((HW.out.setCell (by simp) _).setCell (by simp) _).setCell (by simp) _

set_option maxHeartbeats 2000000 in
theorem rscale_low (o p n : Int) (A : Option Addr) (c : Nat) (l : List Sp) (w : World) (h : SpsR w A l) (hn : l.length ≤ maxLen) (hv : validB o p l = true) (h1 : n < 1) :
    Calls Try.prog 35 #[.agg #[.int .i64 o, .int .i64 p, .slice A l.length c], .int .i64 n] w fun e w' => CalE e w' w.heap.size 0 0 [] 2 ∧ Below w.heap.size w w' := by
  have HN := Lib.hid hn
  have HV := Lib.hid hv
  have d1 : decide (n < 1) = true := decide_eq_true h1
  have hW := ((Below.refl w.heap.size w).alloc (Nat.le_refl _) (.cells #[.int .i64 o, .int .i64 p, .slice A l.length c] 24)).alloc (by simp) (.cells #[.int .i64 0, .int .i64 0, .slice none 0 0] 24)
  have K0 := Lib.hid ((((Kp.sps h).alloc (.cells #[.int .i64 o, .int .i64 p, .slice A l.length c] 24)).alloc (.cells #[.int .i64 0, .int .i64 0, .slice none 0 0] 24)).and (((Kp.blk (Blk.new w 24 #[.int .i64 o, .int .i64 p, .slice A l.length c])).alloc (.cells #[.int .i64 0, .int .i64 0, .slice none 0 0] 24)).and ((Kp.blk (Blk.new (w.alloc (.cells #[.int .i64 o, .int .i64 p, .slice A l.length c] 24)) 24 #[.int .i64 0, .int .i64 0, .slice none 0 0])).and (Kp.bel hW))))
  clear h hW
  go_enter Try.func35, Try.ntmps35
  go_wp2_with fail
  refine (rvalidC_at _ K0.out.now.1 HN.out HV.out).mono ?_
  rintro e w1 ⟨rfl, hb1⟩
  have K1 := Lib.hid (K0.out.next hb1)
  clear K0 hb1
  obtain ⟨hS, hC, hR, hW⟩ := K1.out.now
  have g0 := hC.cell 0; have g1 := hC.cell 1; have g2 := hC.cell 2; have z0 := hR.cell 0; have z1 := hR.cell 1; have z2 := hR.cell 2; have y0 := hR.frozen 0; have y1 := hR.frozen 1; have y2 := hR.frozen 2
  simp at g0 g1 g2 z0 z1 z2 y0 y1 y2
  have hgt := hC.lt
  have hzt := hR.lt
  simp at hzt
  have HW := Lib.hid hW
  have HS := Lib.hid hS
  clear hC hR hW hS
  go_wp2
  refine bodyPost_ret (v := .tuple #[.agg #[.int .i64 0, .int .i64 0, .slice none 0 0], .int .i64 2]) (by simp [results, Try.results35, go_sem, z0, z1, z2]) rfl ⟨CalE.err rfl, ?_⟩
  exact ((HW.out.setCell (by simp) _).setCell (by simp) _).setCell (by simp) _


set_option maxHeartbeats 2000000 in
theorem scale_big (o p n : Int) (A : Option Addr) (c : Nat) (l : List Sp) (w : World) (h : SpsR w A l) (hn : l.length ≤ maxLen) (hv : validB o p l = true) (h1 : ¬ n < 1) (h2 : 12622780800 / p < n) :
    Calls Try.prog 34 #[.agg #[.int .i64 o, .int .i64 p, .slice A l.length c], .int .i64 n] w fun e w' => CalE e w' w.heap.size 0 0 [] 9 ∧ Below w.heap.size w w' := by
  have HN := Lib.hid hn
  have HV := Lib.hid hv
  have hp1 := (Vd.of hv).p1
  have hp2 := (Vd.of hv).p2
  have d1 : decide (n < 1) = false := decide_eq_false h1
  have d2 : decide (12622780800 / p < n) = true := decide_eq_true h2
  have hW := ((Below.refl w.heap.size w).alloc (Nat.le_refl _) (.cells #[.int .i64 o, .int .i64 p, .slice A l.length c] 24)).alloc (by simp) (.cells #[.int .i64 0, .int .i64 0, .slice none 0 0] 24)
  have K0 := Lib.hid ((((Kp.sps h).alloc (.cells #[.int .i64 o, .int .i64 p, .slice A l.length c] 24)).alloc (.cells #[.int .i64 0, .int .i64 0, .slice none 0 0] 24)).and (((Kp.blk (Blk.new w 24 #[.int .i64 o, .int .i64 p, .slice A l.length c])).alloc (.cells #[.int .i64 0, .int .i64 0, .slice none 0 0] 24)).and ((Kp.blk (Blk.new (w.alloc (.cells #[.int .i64 o, .int .i64 p, .slice A l.length c] 24)) 24 #[.int .i64 0, .int .i64 0, .slice none 0 0])).and (Kp.bel hW))))
  clear h hW
  go_enter Try.func34, Try.ntmps34
  go_wp2_with fail
  refine (valid_at _ K0.out.now.1 HN.out HV.out).mono ?_
  rintro e w1 ⟨rfl, hb1⟩
  have K1 := Lib.hid (K0.out.next hb1)
  clear K0 hb1
  obtain ⟨hS, hC, hR, hW⟩ := K1.out.now
  have g0 := hC.cell 0; have g1 := hC.cell 1; have g2 := hC.cell 2; have z0 := hR.cell 0; have z1 := hR.cell 1; have z2 := hR.cell 2; have y0 := hR.frozen 0; have y1 := hR.frozen 1; have y2 := hR.frozen 2
  simp at g0 g1 g2 z0 z1 z2 y0 y1 y2
  have hgt := hC.lt
  have hzt := hR.lt
  simp at hzt
  have HW := Lib.hid hW
  have HS := Lib.hid hS
  clear hC hR hW hS
  go_wp2
  refine bodyPost_ret (v := .tuple #[.agg #[.int .i64 0, .int .i64 0, .slice none 0 0], .int .i64 9]) (by simp [results, Try.results34, go_sem, z0, z1, z2]) rfl ⟨CalE.err rfl, ?_⟩
  exact ((HW.out.setCell (by simp) _).setCell (by simp) _).setCell (by simp) _

set_option maxHeartbeats 2000000 in
theorem rscale_big (o p n : Int) (A : Option Addr) (c : Nat) (l : List Sp) (w : World) (h : SpsR w A l) (hn : l.length ≤ maxLen) (hv : validB o p l = true) (h1 : ¬ n < 1) (h2 : 12622780800 / p < n) :
    Calls Try.prog 35 #[.agg #[.int .i64 o, .int .i64 p, .slice A l.length c], .int .i64 n] w fun e w' => CalE e w' w.heap.size 0 0 [] 9 ∧ Below w.heap.size w w' := by
  have HN := Lib.hid hn
  have HV := Lib.hid hv
  have hp1 := (Vd.of hv).p1
  have hp2 := (Vd.of hv).p2
  have d1 : decide (n < 1) = false := decide_eq_false h1
  have d2 : decide (12622780800 / p < n) = true := decide_eq_true h2
  have hW := ((Below.refl w.heap.size w).alloc (Nat.le_refl _) (.cells #[.int .i64 o, .int .i64 p, .slice A l.length c] 24)).alloc (by simp) (.cells #[.int .i64 0, .int .i64 0, .slice none 0 0] 24)
  have K0 := Lib.hid ((((Kp.sps h).alloc (.cells #[.int .i64 o, .int .i64 p, .slice A l.length c] 24)).alloc (.cells #[.int .i64 0, .int .i64 0, .slice none 0 0] 24)).and (((Kp.blk (Blk.new w 24 #[.int .i64 o, .int .i64 p, .slice A l.length c])).alloc (.cells #[.int .i64 0, .int .i64 0, .slice none 0 0] 24)).and ((Kp.blk (Blk.new (w.alloc (.cells #[.int .i64 o, .int .i64 p, .slice A l.length c] 24)) 24 #[.int .i64 0, .int .i64 0, .slice none 0 0])).and (Kp.bel hW))))
  clear h hW
  go_enter Try.func35, Try.ntmps35
  go_wp2_with fail
  refine (rvalidC_at _ K0.out.now.1 HN.out HV.out).mono ?_
  rintro e w1 ⟨rfl, hb1⟩
  have K1 := Lib.hid (K0.out.next hb1)
  clear K0 hb1
  obtain ⟨hS, hC, hR, hW⟩ := K1.out.now
  have g0 := hC.cell 0; have g1 := hC.cell 1; have g2 := hC.cell 2; have z0 := hR.cell 0; have z1 := hR.cell 1; have z2 := hR.cell 2; have y0 := hR.frozen 0; have y1 := hR.frozen 1; have y2 := hR.frozen 2
  simp at g0 g1 g2 z0 z1 z2 y0 y1 y2
  have hgt := hC.lt
  have hzt := hR.lt
  simp at hzt
  have HW := Lib.hid hW
  have HS := Lib.hid hS
  clear hC hR hW hS
  go_wp2
  refine bodyPost_ret (v := .tuple #[.agg #[.int .i64 0, .int .i64 0, .slice none 0 0], .int .i64 9]) (by simp [results, Try.results35, go_sem, z0, z1, z2]) rfl ⟨CalE.err rfl, ?_⟩
  exact ((HW.out.setCell (by simp) _).setCell (by simp) _).setCell (by simp) _

set_option maxHeartbeats 2000000 in
theorem scale_half (o p n : Int) (A : Option Addr) (c : Nat) (l : List Sp) (w : World) (h : SpsR w A l) (hn : l.length ≤ maxLen) (hv : validB o p l = true) (h1 : ¬ n < 1) (hnn : n ≤ 9223372036854775807) (h2 : ¬ 12622780800 / p < n) (h3 : halfB (o * n) = false) :
    Calls Try.prog 34 #[.agg #[.int .i64 o, .int .i64 p, .slice A l.length c], .int .i64 n] w fun e w' => CalE e w' w.heap.size 0 0 [] 2 ∧ Below w.heap.size w w' := by
  have HN := Lib.hid hn
  have HV := Lib.hid hv
  have hp1 := (Vd.of hv).p1
  have hp2 := (Vd.of hv).p2
  have d1 : decide (n < 1) = false := decide_eq_false h1
  have d2 : decide (12622780800 / p < n) = false := decide_eq_false h2
  have o1 := (Vd.of hv).o1
  have o2 := (Vd.of hv).o2
  have HM := Lib.hid (fun w => imul_any o n (by omega) (by omega) (by omega) hnn w)
  have HH := Lib.hid h3
  clear h3
  have hW := ((Below.refl w.heap.size w).alloc (Nat.le_refl _) (.cells #[.int .i64 o, .int .i64 p, .slice A l.length c] 24)).alloc (by simp) (.cells #[.int .i64 0, .int .i64 0, .slice none 0 0] 24)
  have K0 := Lib.hid ((((Kp.sps h).alloc (.cells #[.int .i64 o, .int .i64 p, .slice A l.length c] 24)).alloc (.cells #[.int .i64 0, .int .i64 0, .slice none 0 0] 24)).and (((Kp.blk (Blk.new w 24 #[.int .i64 o, .int .i64 p, .slice A l.length c])).alloc (.cells #[.int .i64 0, .int .i64 0, .slice none 0 0] 24)).and ((Kp.blk (Blk.new (w.alloc (.cells #[.int .i64 o, .int .i64 p, .slice A l.length c] 24)) 24 #[.int .i64 0, .int .i64 0, .slice none 0 0])).and (Kp.bel hW))))
  clear h hW
  go_enter Try.func34, Try.ntmps34
  go_wp2_with fail
  refine (valid_at _ K0.out.now.1 HN.out HV.out).mono ?_
  rintro e w1 ⟨rfl, hb1⟩
  have K1 := Lib.hid (K0.out.next hb1)
  clear K0 hb1
  obtain ⟨hS, hC, hR, hW⟩ := K1.out.now
  have g0 := hC.cell 0; have g1 := hC.cell 1; have g2 := hC.cell 2; have z0 := hR.cell 0; have z1 := hR.cell 1; have z2 := hR.cell 2; have y0 := hR.frozen 0; have y1 := hR.frozen 1; have y2 := hR.frozen 2
  simp at g0 g1 g2 z0 z1 z2 y0 y1 y2
  have hgt := hC.lt
  have hzt := hR.lt
  simp at hzt
  have HW := Lib.hid hW
  have HS := Lib.hid hS
  clear hC hR hW hS
  go_wp2_with fail
  refine (HM.out _).mono ?_
  rintro e w2 ⟨rfl, rfl⟩
  cases hf : fitB (o * n) with
  | false =>
    simp only [Bool.false_eq_true, if_false]
    clear hf
    go_wp2
    refine bodyPost_ret (v := .tuple #[.agg #[.int .i64 0, .int .i64 0, .slice none 0 0], .int .i64 2]) (by simp [results, Try.results34, go_sem, z0, z1, z2]) rfl ⟨CalE.err rfl, ?_⟩
    exact ((HW.out.setCell (by simp) _).setCell (by simp) _).setCell (by simp) _
  | true =>
    simp only [if_true]
    clear hf
    go_wp2_with fail
    refine (ghalf_at _ HH.out).mono ?_
    rintro e w2 ⟨rfl, rfl⟩
    go_wp2
    refine bodyPost_ret (v := .tuple #[.agg #[.int .i64 0, .int .i64 0, .slice none 0 0], .int .i64 2]) (by simp [results, Try.results34, go_sem, z0, z1, z2]) rfl ⟨CalE.err rfl, ?_⟩
    exact ((HW.out.setCell (by simp) _).setCell (by simp) _).setCell (by simp) _
end Go.Proofs.Ytnieceplfjmocaa
