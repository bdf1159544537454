/-
  The reference's Of.
-/
import Derived.Test.YtnieceplfjmocaaOfOk
import Derived.Test.YtnieceplfjmocaaRNear
import Derived.Deep.RegionHeld3
namespace Go.Proofs.Ytnieceplfjmocaa
open Go.RowKit Go.BigFrame

theorem eqAt_shift {p d : Int} {l : List Sp} {m i : Nat} (h : i + m < l.length) : eqAt p (shiftL l d) m i = eqAt p l m i := by
  rw [Bool.eq_iff_iff]
  simp only [eqAt, Bool.and_eq_true, beq_iff_eq]
  rw [fr_shift h, tt_shift h, fr_shift (show i < l.length by omega), tt_shift (show i < l.length by omega)]
  omega
theorem repM_shift {p d : Int} {l : List Sp} {m : Nat} : repM p (shiftL l d) m = repM p l m := by
  unfold repM
  rw [shiftL_len]
  have : (List.range (l.length - m)).all (eqAt (p / ((l.length / m : Nat) : Int)) (shiftL l d) m) = (List.range (l.length - m)).all (eqAt (p / ((l.length / m : Nat) : Int)) l m) := by
    rw [Bool.eq_iff_iff, List.all_eq_true, List.all_eq_true]
    constructor
    · intro h i hi
      have := h i hi
      rwa [eqAt_shift (by have := List.mem_range.1 hi; omega)] at this
    · intro h i hi
      rw [eqAt_shift (by have := List.mem_range.1 hi; omega)]
      exact h i hi
  rw [this]
theorem leastN_shift {p d : Int} {l : List Sp} : leastN p (shiftL l d) = leastN p l := by
  unfold leastN
  rw [shiftL_len]
  simp only [repM_shift]

set_option maxHeartbeats 2000000 in
theorem rof_e1 (o p : Int) (A : Option Addr) (c : Nat) (l : List Sp) (w : World) (h : SpsR w A l) (hn : l.length ≤ maxLen) (hp : p < 1) :
    Calls Try.prog 18 #[.int .i64 o, .int .i64 p, .slice A l.length c] w fun e w' => OfErr e 1 ∧ Below w.heap.size w w' := by
  have HN := Lib.hid hn
  have H := Lib.hid h
  unfold maxLen at hn
  have HA : Hid (ascB l = ascB l) := Lib.hid rfl
  have d1 : decide (p < 1) = true := by simp; omega
  clear h
  go_enter Try.func18, Try.ntmps18
  go_wp2_with fail
  refine wp_region_below (by kernel_rfl) (by kernel_rfl) ?_
  intro W hW
  have hR : Blk W w.heap.size 24 #[.int .i64 0, .int .i64 0, .slice none 0 0] := by rw [hW]; exact Blk.new _ _ _
  have hWb : Below w.heap.size w W := by rw [hW]; exact (Below.refl _ _).alloc (Nat.le_refl _) _
  have HS := Lib.hid (fun z : Bw W => (H.out.below hWb).below z.2)
  clear hW
  repeat (go_big_quiet_step ((go_at_call 53; exact quiet_b (lis_at _ (HS.out _) HN.out HA.out))))
  refine wpQuiet_nil ?_
  rintro wq ⟨⟨_, hq⟩, rfl⟩
  have hbq := below_next hWb hq
  have hR2 := hR.below hq
  have g0 := hR2.cell 0
  have g1 := hR2.cell 1
  have g2 := hR2.cell 2
  have f0 := hR2.frozen 0
  have f1 := hR2.frozen 1
  have f2 := hR2.frozen 2
  simp at g0 g1 g2
  go_wp2
  refine bodyPost_ret (v := .tuple #[.agg #[.int .i64 0, .int .i64 0, .slice none 0 0], .int .i64 1]) (by simp [results, Try.results18, go_sem, g0, g1, g2]) rfl ⟨rfl, ?_⟩
  exact ((hbq.setCell (by simp) _).setCell (by simp) _).setCell (by simp) _

set_option maxHeartbeats 2000000 in
theorem rof_e2 (o p : Int) (A : Option Addr) (c : Nat) (l : List Sp) (w : World) (h : SpsR w A l) (hn : l.length ≤ maxLen) (hp : 12622780800 < p) :
    Calls Try.prog 18 #[.int .i64 o, .int .i64 p, .slice A l.length c] w fun e w' => OfErr e 1 ∧ Below w.heap.size w w' := by
  have HN := Lib.hid hn
  have H := Lib.hid h
  unfold maxLen at hn
  have HA : Hid (ascB l = ascB l) := Lib.hid rfl
  have d1 : decide (p < 1) = false := by simp; omega
  have d2 : decide (12622780800 < p) = true := by simp; omega
  clear h
  go_enter Try.func18, Try.ntmps18
  go_wp2_with fail
  refine wp_region_below (by kernel_rfl) (by kernel_rfl) ?_
  intro W hW
  have hR : Blk W w.heap.size 24 #[.int .i64 0, .int .i64 0, .slice none 0 0] := by rw [hW]; exact Blk.new _ _ _
  have hWb : Below w.heap.size w W := by rw [hW]; exact (Below.refl _ _).alloc (Nat.le_refl _) _
  have HS := Lib.hid (fun z : Bw W => (H.out.below hWb).below z.2)
  clear hW
  repeat (go_big_quiet_step ((go_at_call 53; exact quiet_b (lis_at _ (HS.out _) HN.out HA.out))))
  refine wpQuiet_nil ?_
  rintro wq ⟨⟨_, hq⟩, rfl⟩
  have hbq := below_next hWb hq
  have hR2 := hR.below hq
  have g0 := hR2.cell 0
  have g1 := hR2.cell 1
  have g2 := hR2.cell 2
  have f0 := hR2.frozen 0
  have f1 := hR2.frozen 1
  have f2 := hR2.frozen 2
  simp at g0 g1 g2
  go_wp2
  refine bodyPost_ret (v := .tuple #[.agg #[.int .i64 0, .int .i64 0, .slice none 0 0], .int .i64 1]) (by simp [results, Try.results18, go_sem, g0, g1, g2]) rfl ⟨rfl, ?_⟩
  exact ((hbq.setCell (by simp) _).setCell (by simp) _).setCell (by simp) _

set_option maxHeartbeats 2000000 in
theorem rof_e3 (o p : Int) (A : Option Addr) (c : Nat) (l : List Sp) (w : World) (h : SpsR w A l) (hn : l.length ≤ maxLen) (hp : 1 ≤ p) (hp2 : p ≤ 12622780800) (ha : ascB l = false) :
    Calls Try.prog 18 #[.int .i64 o, .int .i64 p, .slice A l.length c] w fun e w' => OfErr e 1 ∧ Below w.heap.size w w' := by
  have HN := Lib.hid hn
  have H := Lib.hid h
  unfold maxLen at hn
  have HA := Lib.hid ha
  clear ha
  have d1 : decide (p < 1) = false := by simp; omega
  have d2 : decide (12622780800 < p) = false := by simp; omega
  clear h
  go_enter Try.func18, Try.ntmps18
  go_wp2_with fail
  refine wp_region_below (by kernel_rfl) (by kernel_rfl) ?_
  intro W hW
  have hR : Blk W w.heap.size 24 #[.int .i64 0, .int .i64 0, .slice none 0 0] := by rw [hW]; exact Blk.new _ _ _
  have hWb : Below w.heap.size w W := by rw [hW]; exact (Below.refl _ _).alloc (Nat.le_refl _) _
  have HS := Lib.hid (fun z : Bw W => (H.out.below hWb).below z.2)
  clear hW
  repeat (go_big_quiet_step ((go_at_call 53; exact quiet_b (lis_at _ (HS.out _) HN.out HA.out))))
  refine wpQuiet_nil ?_
  rintro wq ⟨⟨_, hq⟩, rfl⟩
  have hbq := below_next hWb hq
  have hR2 := hR.below hq
  have g0 := hR2.cell 0
  have g1 := hR2.cell 1
  have g2 := hR2.cell 2
  have f0 := hR2.frozen 0
  have f1 := hR2.frozen 1
  have f2 := hR2.frozen 2
  simp at g0 g1 g2
  go_wp2
  refine bodyPost_ret (v := .tuple #[.agg #[.int .i64 0, .int .i64 0, .slice none 0 0], .int .i64 1]) (by simp [results, Try.results18, go_sem, g0, g1, g2]) rfl ⟨rfl, ?_⟩
  exact ((hbq.setCell (by simp) _).setCell (by simp) _).setCell (by simp) _

set_option maxHeartbeats 2000000 in
theorem rof_e4 (o p : Int) (A : Option Addr) (c : Nat) (l : List Sp) (w : World) (h : SpsR w A l) (hn : l.length ≤ maxLen) (hp : 1 ≤ p) (hp2 : p ≤ 12622780800) (ha : ascB l = true) (ht : p < tt l (l.length - 1) - fr l 0) :
    Calls Try.prog 18 #[.int .i64 o, .int .i64 p, .slice A l.length c] w fun e w' => OfErr e 1 ∧ Below w.heap.size w w' := by
  have HN := Lib.hid hn
  have H := Lib.hid h
  unfold maxLen at hn
  have HA := Lib.hid ha
  clear ha
  have d1 : decide (p < 1) = false := by simp; omega
  have d2 : decide (12622780800 < p) = false := by simp; omega
  have d3 : decide (p < tt l (l.length - 1) - fr l 0) = true := by simp; omega
  have hl0 := asc_ne HA.out
  obtain ⟨b, o', rfl, hc⟩ := h hl0
  have c1 := (hc 0 hl0).1
  have c2 := (hc (l.length - 1) (by omega)).2
  obtain ⟨b1, b2, b3⟩ := asc_iv HA.out hl0
  obtain ⟨b4, b5, b6⟩ := asc_iv HA.out (show l.length - 1 < l.length by omega)
  clear hc
  clear h
  go_enter Try.func18, Try.ntmps18
  go_wp2_with fail
  refine wp_region_below (by kernel_rfl) (by kernel_rfl) ?_
  intro W hW
  have hR : Blk W w.heap.size 24 #[.int .i64 0, .int .i64 0, .slice none 0 0] := by rw [hW]; exact Blk.new _ _ _
  have hWb : Below w.heap.size w W := by rw [hW]; exact (Below.refl _ _).alloc (Nat.le_refl _) _
  have HS := Lib.hid (fun z : Bw W => (H.out.below hWb).below z.2)
  have e4 : ∀ z : Bw W, z.1.cell? ⟨b, o', none⟩ = some (.int .i64 (fr l 0)) := fun z => z.old hWb (by simpa using c1)
  have e5 : ∀ z : Bw W, z.1.cell? ⟨b, o' + (l.length - 1) * 2 + 1, none⟩ = some (.int .i64 (tt l (l.length - 1))) := fun z => z.old hWb c2
  clear hW
  repeat (go_big_quiet_step ((go_at_call 53; exact quiet_b (lis_at _ (HS.out _) HN.out HA.out))))
  refine wpQuiet_nil ?_
  rintro wq ⟨⟨_, hq⟩, rfl⟩
  have hbq := below_next hWb hq
  have g4 : wq.cell? ⟨b, o', none⟩ = some (.int .i64 (fr l 0)) := e4 ⟨wq, hq⟩
  clear e4 e5
  have hR2 := hR.below hq
  have g0 := hR2.cell 0
  have g1 := hR2.cell 1
  have g2 := hR2.cell 2
  have f0 := hR2.frozen 0
  have f1 := hR2.frozen 1
  have f2 := hR2.frozen 2
  simp at g0 g1 g2
  go_wp2
  refine bodyPost_ret (v := .tuple #[.agg #[.int .i64 0, .int .i64 0, .slice none 0 0], .int .i64 1]) (by simp [results, Try.results18, go_sem, g0, g1, g2]) rfl ⟨rfl, ?_⟩
  exact ((hbq.setCell (by simp) _).setCell (by simp) _).setCell (by simp) _

set_option maxHeartbeats 2000000 in
theorem rof_e5 (o p : Int) (A : Option Addr) (c : Nat) (l : List Sp) (w : World) (h : SpsR w A l) (hn : l.length ≤ maxLen) (hp : 1 ≤ p) (hp2 : p ≤ 12622780800) (ha : ascB l = true) (ht : tt l (l.length - 1) - fr l 0 ≤ p) (h5 : 5000 < l.length) :
    Calls Try.prog 18 #[.int .i64 o, .int .i64 p, .slice A l.length c] w fun e w' => OfErr e 5 ∧ Below w.heap.size w w' := by
  have HN := Lib.hid hn
  have H := Lib.hid h
  unfold maxLen at hn
  have HA := Lib.hid ha
  clear ha
  have d1 : decide (p < 1) = false := by simp; omega
  have d2 : decide (12622780800 < p) = false := by simp; omega
  have d3 : decide (p < tt l (l.length - 1) - fr l 0) = false := by simp; omega
  have hl0 := asc_ne HA.out
  obtain ⟨b, o', rfl, hc⟩ := h hl0
  have c1 := (hc 0 hl0).1
  have c2 := (hc (l.length - 1) (by omega)).2
  obtain ⟨b1, b2, b3⟩ := asc_iv HA.out hl0
  obtain ⟨b4, b5, b6⟩ := asc_iv HA.out (show l.length - 1 < l.length by omega)
  clear hc
  clear h
  go_enter Try.func18, Try.ntmps18
  go_wp2_with fail
  refine wp_region_below (by kernel_rfl) (by kernel_rfl) ?_
  intro W hW
  have hR : Blk W w.heap.size 24 #[.int .i64 0, .int .i64 0, .slice none 0 0] := by rw [hW]; exact Blk.new _ _ _
  have hWb : Below w.heap.size w W := by rw [hW]; exact (Below.refl _ _).alloc (Nat.le_refl _) _
  have HS := Lib.hid (fun z : Bw W => (H.out.below hWb).below z.2)
  have e4 : ∀ z : Bw W, z.1.cell? ⟨b, o', none⟩ = some (.int .i64 (fr l 0)) := fun z => z.old hWb (by simpa using c1)
  have e5 : ∀ z : Bw W, z.1.cell? ⟨b, o' + (l.length - 1) * 2 + 1, none⟩ = some (.int .i64 (tt l (l.length - 1))) := fun z => z.old hWb c2
  clear hW
  repeat (go_big_quiet_step ((go_at_call 53; exact quiet_b (lis_at _ (HS.out _) HN.out HA.out))))
  refine wpQuiet_nil ?_
  rintro wq ⟨⟨_, hq⟩, rfl⟩
  have hbq := below_next hWb hq
  have g4 : wq.cell? ⟨b, o', none⟩ = some (.int .i64 (fr l 0)) := e4 ⟨wq, hq⟩
  clear e4 e5
  have hR2 := hR.below hq
  have g0 := hR2.cell 0
  have g1 := hR2.cell 1
  have g2 := hR2.cell 2
  have f0 := hR2.frozen 0
  have f1 := hR2.frozen 1
  have f2 := hR2.frozen 2
  simp at g0 g1 g2
  go_wp2
  refine bodyPost_ret (v := .tuple #[.agg #[.int .i64 0, .int .i64 0, .slice none 0 0], .int .i64 5]) (by simp [results, Try.results18, go_sem, g0, g1, g2]) rfl ⟨rfl, ?_⟩
  exact ((hbq.setCell (by simp) _).setCell (by simp) _).setCell (by simp) _

set_option maxHeartbeats 2000000 in
theorem rof_e6 (o p : Int) (A : Option Addr) (c : Nat) (l : List Sp) (w : World) (h : SpsR w A l) (hn : l.length ≤ maxLen) (hp : 1 ≤ p) (hp2 : p ≤ 12622780800) (ha : ascB l = true) (ht : tt l (l.length - 1) - fr l 0 ≤ p) (h5 : l.length ≤ 5000) (hl : lineB o = false) :
    Calls Try.prog 18 #[.int .i64 o, .int .i64 p, .slice A l.length c] w fun e w' => OfErr e 2 ∧ Below w.heap.size w w' := by
  have HN := Lib.hid hn
  have H := Lib.hid h
  unfold maxLen at hn
  have HA := Lib.hid ha
  clear ha
  have d1 : decide (p < 1) = false := by simp; omega
  have d2 : decide (12622780800 < p) = false := by simp; omega
  have d3 : decide (p < tt l (l.length - 1) - fr l 0) = false := by simp; omega
  have HL := Lib.hid hl
  clear hl
  have hl0 := asc_ne HA.out
  obtain ⟨b, o', rfl, hc⟩ := h hl0
  have c1 := (hc 0 hl0).1
  have c2 := (hc (l.length - 1) (by omega)).2
  obtain ⟨b1, b2, b3⟩ := asc_iv HA.out hl0
  obtain ⟨b4, b5, b6⟩ := asc_iv HA.out (show l.length - 1 < l.length by omega)
  clear hc
  clear h
  go_enter Try.func18, Try.ntmps18
  go_wp2_with fail
  refine wp_region_below (by kernel_rfl) (by kernel_rfl) ?_
  intro W hW
  have hR : Blk W w.heap.size 24 #[.int .i64 0, .int .i64 0, .slice none 0 0] := by rw [hW]; exact Blk.new _ _ _
  have hWb : Below w.heap.size w W := by rw [hW]; exact (Below.refl _ _).alloc (Nat.le_refl _) _
  have HS := Lib.hid (fun z : Bw W => (H.out.below hWb).below z.2)
  have e4 : ∀ z : Bw W, z.1.cell? ⟨b, o', none⟩ = some (.int .i64 (fr l 0)) := fun z => z.old hWb (by simpa using c1)
  have e5 : ∀ z : Bw W, z.1.cell? ⟨b, o' + (l.length - 1) * 2 + 1, none⟩ = some (.int .i64 (tt l (l.length - 1))) := fun z => z.old hWb c2
  clear hW
  repeat (go_big_quiet_step ((go_at_call 53; exact quiet_b (lis_at _ (HS.out _) HN.out HA.out))))
  refine wpQuiet_nil ?_
  rintro wq ⟨⟨_, hq⟩, rfl⟩
  have hbq := below_next hWb hq
  have g4 : wq.cell? ⟨b, o', none⟩ = some (.int .i64 (fr l 0)) := e4 ⟨wq, hq⟩
  clear e4 e5
  have hR2 := hR.below hq
  have g0 := hR2.cell 0
  have g1 := hR2.cell 1
  have g2 := hR2.cell 2
  have f0 := hR2.frozen 0
  have f1 := hR2.frozen 1
  have f2 := hR2.frozen 2
  simp at g0 g1 g2
  go_wp2_with (go_at_call 43; refine (rline_at _ HL.out).mono ?_; rintro e w' ⟨rfl, rfl⟩)
  refine bodyPost_ret (v := .tuple #[.agg #[.int .i64 0, .int .i64 0, .slice none 0 0], .int .i64 2]) (by simp [results, Try.results18, go_sem, g0, g1, g2]) rfl ⟨rfl, ?_⟩
  exact ((hbq.setCell (by simp) _).setCell (by simp) _).setCell (by simp) _

set_option maxHeartbeats 2000000 in
theorem rof_e7a (o p : Int) (A : Option Addr) (c : Nat) (l : List Sp) (w : World) (h : SpsR w A l) (hn : l.length ≤ maxLen) (hp : 1 ≤ p) (hp2 : p ≤ 12622780800) (ha : ascB l = true) (ht : tt l (l.length - 1) - fr l 0 ≤ p) (h5 : l.length ≤ 5000) (hl : lineB o = true) (hh : o + fr l 0 < -2199023255552) :
    Calls Try.prog 18 #[.int .i64 o, .int .i64 p, .slice A l.length c] w fun e w' => OfErr e 2 ∧ Below w.heap.size w w' := by
  have HN := Lib.hid hn
  have H := Lib.hid h
  unfold maxLen at hn
  have HA := Lib.hid ha
  clear ha
  have d1 : decide (p < 1) = false := by simp; omega
  have d2 : decide (12622780800 < p) = false := by simp; omega
  have d3 : decide (p < tt l (l.length - 1) - fr l 0) = false := by simp; omega
  obtain ⟨l1, l2⟩ := lineB_iff.1 hl
  have HL := Lib.hid hl
  have d4 : decide (o + fr l 0 < -2199023255552) = true := by simpa using hh
  clear hl
  have hl0 := asc_ne HA.out
  obtain ⟨b, o', rfl, hc⟩ := h hl0
  have c1 := (hc 0 hl0).1
  have c2 := (hc (l.length - 1) (by omega)).2
  obtain ⟨b1, b2, b3⟩ := asc_iv HA.out hl0
  obtain ⟨b4, b5, b6⟩ := asc_iv HA.out (show l.length - 1 < l.length by omega)
  clear hc
  clear h
  go_enter Try.func18, Try.ntmps18
  go_wp2_with fail
  refine wp_region_below (by kernel_rfl) (by kernel_rfl) ?_
  intro W hW
  have hR : Blk W w.heap.size 24 #[.int .i64 0, .int .i64 0, .slice none 0 0] := by rw [hW]; exact Blk.new _ _ _
  have hWb : Below w.heap.size w W := by rw [hW]; exact (Below.refl _ _).alloc (Nat.le_refl _) _
  have HS := Lib.hid (fun z : Bw W => (H.out.below hWb).below z.2)
  have e4 : ∀ z : Bw W, z.1.cell? ⟨b, o', none⟩ = some (.int .i64 (fr l 0)) := fun z => z.old hWb (by simpa using c1)
  have e5 : ∀ z : Bw W, z.1.cell? ⟨b, o' + (l.length - 1) * 2 + 1, none⟩ = some (.int .i64 (tt l (l.length - 1))) := fun z => z.old hWb c2
  clear hW
  repeat (go_big_quiet_step ((go_at_call 53; exact quiet_b (lis_at _ (HS.out _) HN.out HA.out))))
  refine wpQuiet_nil ?_
  rintro wq ⟨⟨_, hq⟩, rfl⟩
  have hbq := below_next hWb hq
  have g4 : wq.cell? ⟨b, o', none⟩ = some (.int .i64 (fr l 0)) := e4 ⟨wq, hq⟩
  clear e4 e5
  have hR2 := hR.below hq
  have g0 := hR2.cell 0
  have g1 := hR2.cell 1
  have g2 := hR2.cell 2
  have f0 := hR2.frozen 0
  have f1 := hR2.frozen 1
  have f2 := hR2.frozen 2
  simp at g0 g1 g2
  go_wp2_with (go_at_call 43; refine (rline_at _ HL.out).mono ?_; rintro e w' ⟨rfl, rfl⟩)
  refine bodyPost_ret (v := .tuple #[.agg #[.int .i64 0, .int .i64 0, .slice none 0 0], .int .i64 2]) (by simp [results, Try.results18, go_sem, g0, g1, g2]) rfl ⟨rfl, ?_⟩
  exact ((hbq.setCell (by simp) _).setCell (by simp) _).setCell (by simp) _

set_option maxHeartbeats 2000000 in
theorem rof_e7b (o p : Int) (A : Option Addr) (c : Nat) (l : List Sp) (w : World) (h : SpsR w A l) (hn : l.length ≤ maxLen) (hp : 1 ≤ p) (hp2 : p ≤ 12622780800) (ha : ascB l = true) (ht : tt l (l.length - 1) - fr l 0 ≤ p) (h5 : l.length ≤ 5000) (hl : lineB o = true) (hh0 : -2199023255552 ≤ o + fr l 0) (hh : 2199023255552 < o + fr l 0) :
    Calls Try.prog 18 #[.int .i64 o, .int .i64 p, .slice A l.length c] w fun e w' => OfErr e 2 ∧ Below w.heap.size w w' := by
  have HN := Lib.hid hn
  have H := Lib.hid h
  unfold maxLen at hn
  have HA := Lib.hid ha
  clear ha
  have d1 : decide (p < 1) = false := by simp; omega
  have d2 : decide (12622780800 < p) = false := by simp; omega
  have d3 : decide (p < tt l (l.length - 1) - fr l 0) = false := by simp; omega
  obtain ⟨l1, l2⟩ := lineB_iff.1 hl
  have HL := Lib.hid hl
  have d4 : decide (o + fr l 0 < -2199023255552) = false := by simpa using hh0
  have d5 : decide (2199023255552 < o + fr l 0) = true := by simpa using hh
  clear hl
  have hl0 := asc_ne HA.out
  obtain ⟨b, o', rfl, hc⟩ := h hl0
  have c1 := (hc 0 hl0).1
  have c2 := (hc (l.length - 1) (by omega)).2
  obtain ⟨b1, b2, b3⟩ := asc_iv HA.out hl0
  obtain ⟨b4, b5, b6⟩ := asc_iv HA.out (show l.length - 1 < l.length by omega)
  clear hc
  clear h
  go_enter Try.func18, Try.ntmps18
  go_wp2_with fail
  refine wp_region_below (by kernel_rfl) (by kernel_rfl) ?_
  intro W hW
  have hR : Blk W w.heap.size 24 #[.int .i64 0, .int .i64 0, .slice none 0 0] := by rw [hW]; exact Blk.new _ _ _
  have hWb : Below w.heap.size w W := by rw [hW]; exact (Below.refl _ _).alloc (Nat.le_refl _) _
  have HS := Lib.hid (fun z : Bw W => (H.out.below hWb).below z.2)
  have e4 : ∀ z : Bw W, z.1.cell? ⟨b, o', none⟩ = some (.int .i64 (fr l 0)) := fun z => z.old hWb (by simpa using c1)
  have e5 : ∀ z : Bw W, z.1.cell? ⟨b, o' + (l.length - 1) * 2 + 1, none⟩ = some (.int .i64 (tt l (l.length - 1))) := fun z => z.old hWb c2
  clear hW
  repeat (go_big_quiet_step ((go_at_call 53; exact quiet_b (lis_at _ (HS.out _) HN.out HA.out))))
  refine wpQuiet_nil ?_
  rintro wq ⟨⟨_, hq⟩, rfl⟩
  have hbq := below_next hWb hq
  have g4 : wq.cell? ⟨b, o', none⟩ = some (.int .i64 (fr l 0)) := e4 ⟨wq, hq⟩
  clear e4 e5
  have hR2 := hR.below hq
  have g0 := hR2.cell 0
  have g1 := hR2.cell 1
  have g2 := hR2.cell 2
  have f0 := hR2.frozen 0
  have f1 := hR2.frozen 1
  have f2 := hR2.frozen 2
  simp at g0 g1 g2
  go_wp2_with (go_at_call 43; refine (rline_at _ HL.out).mono ?_; rintro e w' ⟨rfl, rfl⟩)
  refine bodyPost_ret (v := .tuple #[.agg #[.int .i64 0, .int .i64 0, .slice none 0 0], .int .i64 2]) (by simp [results, Try.results18, go_sem, g0, g1, g2]) rfl ⟨rfl, ?_⟩
  exact ((hbq.setCell (by simp) _).setCell (by simp) _).setCell (by simp) _

set_option maxHeartbeats 4000000 in
theorem rof_ok (o p : Int) (A : Option Addr) (c : Nat) (l : List Sp) (w : World) (h : SpsR w A l) (hp : 1 ≤ p) (hp2 : p ≤ 12622780800) (ha : ascB l = true) (ht : tt l (l.length - 1) - fr l 0 ≤ p) (h5 : l.length ≤ 5000)
    (hl : lineB o = true) (hh : halfB (o + fr l 0) = true) :
    Calls Try.prog 18 #[.int .i64 o, .int .i64 p, .slice A l.length c] w fun e w' => OfOk e w' w.heap.size o p l ∧ Below w.heap.size w w' := by
  have HN := Lib.hid (show l.length ≤ maxLen by simp only [maxLen]; omega)
  have H := Lib.hid h
  have HA := Lib.hid ha
  clear ha
  have d1 : decide (p < 1) = false := by simp; omega
  have d2 : decide (12622780800 < p) = false := by simp; omega
  have hl0 := asc_ne HA.out
  obtain ⟨b, o', rfl, hc⟩ := h hl0
  have c1 := (hc 0 hl0).1
  have c2 := (hc (l.length - 1) (by omega)).2
  obtain ⟨b1, b2, b3⟩ := asc_iv HA.out hl0
  obtain ⟨b4, b5, b6⟩ := asc_iv HA.out (show l.length - 1 < l.length by omega)
  have d3 : decide (p < tt l (l.length - 1) - fr l 0) = false := by simp; omega
  obtain ⟨l1, l2⟩ := lineB_iff.1 hl
  have HL := Lib.hid hl
  have HC := Lib.hid hc
  have hh' := halfB_iff.1 hh
  have d4 : decide (o + fr l 0 < -2199023255552) = false := by simp; omega
  have d5 : decide (2199023255552 < o + fr l 0) = false := by simp; omega
  obtain ⟨z1, z2⟩ := hh'
  clear h hl hh hc
  go_enter Try.func18, Try.ntmps18
  go_wp2_with fail
  refine wp_region_below (by kernel_rfl) (by kernel_rfl) ?_
  intro W hW
  have hR : Blk W w.heap.size 24 #[.int .i64 0, .int .i64 0, .slice none 0 0] := by rw [hW]; exact Blk.new _ _ _
  have hWb : Below w.heap.size w W := by rw [hW]; exact (Below.refl _ _).alloc (Nat.le_refl _) _
  have HS := Lib.hid (fun z : Bw W => (H.out.below hWb).below z.2)
  have e4 : ∀ z : Bw W, z.1.cell? ⟨b, o', none⟩ = some (.int .i64 (fr l 0)) := fun z => z.old hWb (by simpa using c1)
  have e5 : ∀ z : Bw W, z.1.cell? ⟨b, o' + (l.length - 1) * 2 + 1, none⟩ = some (.int .i64 (tt l (l.length - 1))) := fun z => z.old hWb c2
  clear hW
  repeat (go_big_quiet_step ((go_at_call 53; exact quiet_b (lis_at _ (HS.out _) HN.out HA.out))))
  refine wpQuiet_nil ?_
  rintro wq ⟨⟨_, hq⟩, rfl⟩
  have hbq := below_next hWb hq
  have g4 : wq.cell? ⟨b, o', none⟩ = some (.int .i64 (fr l 0)) := e4 ⟨wq, hq⟩
  have hR2 := hR.below hq
  have hlt : w.heap.size < wq.heap.size := hR2.lt
  have HR := Lib.hid hR2
  have HQ := Lib.hid hbq
  clear e4 e5 c1 c2 hR hWb hq hR2 hbq
  have hofm : leastN p l = ofM p l := (leastN_shift (d := fr l 0)).symm
  obtain ⟨m1, m2, m3, _⟩ := leastN_spec (p := p) hl0
  rw [hofm] at m1 m2 m3
  obtain ⟨r1, r2, _⟩ := repM_parts m3
  have hofL : shiftL (l.take (ofM p l)) (fr l 0) = ofL p l := by simp [ofL, shiftL, List.map_take]
  have HofM := Lib.hid hofm
  have HofL := Lib.hid hofL
  have HP : Hid (ofP p l = p / ((l.length : Int) / (ofM p l : Int))) := Lib.hid rfl
  have q1 : (1 : Int) ≤ (l.length : Int) / (ofM p l : Int) := by apply Int.le_ediv_of_mul_le <;> omega
  have q2 : (l.length : Int) / (ofM p l : Int) ≤ l.length := Int.ediv_le_self _ (by omega)
  have q3 : 0 ≤ p / ((l.length : Int) / (ofM p l : Int)) := Int.ediv_nonneg (by omega) (by omega)
  have q4 : p / ((l.length : Int) / (ofM p l : Int)) ≤ p := Int.ediv_le_self _ (by omega)
  clear hofm hofL r1 r2 m3
  generalize ofM p l = m at *
  go_wp2_with (first | (go_at_call 43; refine (rline_at _ HL.out).mono ?_; rintro e w' ⟨rfl, rfl⟩) | (go_at_call 54; refine (calls_b (rleast_any _ _ _ _ _ (H.out.below HQ.out) HN.out hl0 hp hp2 (asc_bd HA.out))).mono ?_; rintro e w1 ⟨rfl, hb1⟩; rw [HofM.out]))
  have HB1 := Lib.hid hb1
  have hsz := hb1.size
  clear hb1 g4
  go_loopw [9, 11] (fun v x wr => ∃ (k : Nat) (A : Option Addr) (cc : Nat), k ≤ m ∧ x = .int .i64 k ∧ v = .slice A (shiftL (l.take k) (fr l 0)).length cc ∧ OwnSp wr w1.heap.size A cc (shiftL (l.take k) (fr l 0)) ∧ Below w1.heap.size w1 wr) (fun _ x _ => m - (intOf x).toNat)
  case atStart => exact ⟨0, none, 0, by omega, rfl, rfl, OwnSp.nil _ _, Below.refl _ _⟩
  case round =>
    obtain ⟨k, A, cc, hk, rfl, rfl, hown, hbw⟩ := hrel
    have hlenL : (shiftL (l.take k) (fr l 0)).length = k := by rw [shiftL_len, List.length_take]; omega
    have hsz2 := hbw.size
    by_cases hlt' : k < m
    · obtain ⟨v1, v2, v3⟩ := asc_iv HA.out (show k < l.length by omega)
      have c1 := (HC.out k (by omega)).1
      have c2 := (HC.out k (by omega)).2
      have hbq := below_next (below_next HQ.out HB1.out) hbw
      have c1' := old_cell hbq c1
      have c2' := old_cell hbq c2
      have hbl := World.block_lt_of_cell? _ _ c1'
      have hb0 : b < w1.heap.size := by have h1 := World.block_lt_of_cell? _ _ c1; have h2 := HQ.out.size; simp only at h1; omega
      have HT := Lib.hid (shiftL_take_succ (l := l) (d := fr l 0) (show k < l.length by omega))
      generalize shiftL (l.take k) (fr l 0) = L at *
      have HLen := Lib.hid hlenL
      have hL5 : L.length ≤ 5000 := by omega
      clear hlenL c1 c2 hbq
      have HO := Lib.hid hown
      have HW := Lib.hid hbw
      clear hown hbw
      go_wp2_with fail
      have x0 : (0 : Int) ≤ (k : Int) := by omega
      have x3 : (k : Int) < (l.length : Int) := by omega
      have x1 : IntKind.i64.wrap (fr l k - fr l 0) = fr l k - fr l 0 := IntWalk.i64_in _ (by omega)
      have x2 : IntKind.i64.wrap (tt l k - fr l 0) = tt l k - fr l 0 := IntWalk.i64_in _ (by omega)
      go_region_held3 (fun w' => w'.cell? ⟨b, o' + k * 2, none⟩ = some (.int .i64 (fr l k)) ∧ w'.cell? ⟨b, o' + k * 2 + 1, none⟩ = some (.int .i64 (tt l k))) (go_keep) ((refine step_append_span rfl (.tmp 71) (.tmp 87) rfl w1.heap.size A cc L rfl (HO.out.alloc _) wr.heap.size 0 1 (fr l k - fr l 0) (tt l k - fr l 0) rfl (by simp [go_sem]) (by simp [go_sem]) (by omega) (by simp; omega) ?_; intro A' cc' w2 hown2 hgr2; have s1 := (World.cell?_of_block (hgr2.block b (by simp; omega) (fun e => by have := (HO.out.blk b e.symm).1; omega)) : w2.cell? ⟨b, o' + k * 2, none⟩ = _); have s2 := (World.cell?_of_block (hgr2.block b (by simp; omega) (fun e => by have := (HO.out.blk b e.symm).1; omega)) : w2.cell? ⟨b, o' + k * 2 + 1, none⟩ = _)))
      all_goals
        have hW2 : Below w1.heap.size w1 w2 := (HW.out.drew.alloc (by show w1.heap.size ≤ wr.heap.size; omega) _).grown hgr2 (by simp; omega) (fun g e => (HO.out.blk _ e).1)
        have HO2 := Lib.hid hown2
        have HW2 := Lib.hid hW2
        clear hW2 hown2 hgr2 s1 s2
        go_wp2
        go_roundw
        case rel => exact ⟨k + 1, A', cc', by omega, by go_num, by rw [HT.out, List.length_append]; rfl, by rw [HT.out]; exact HO2.out, HW2.out⟩
        case measure => simp [intOf]; omega
    · have hkm : k = m := by omega
      subst hkm
      have hbb := below_next HB1.out hbw
      have hbt := below_next HQ.out hbb
      have hRr := HR.out.below hbb
      have z0 := hRr.cell 0
      have z1 := hRr.cell 1
      have z2 := hRr.cell 2
      have y0 := hRr.frozen 0
      have y1 := hRr.frozen 1
      have y2 := hRr.frozen 2
      simp at z0 z1 z2 y0 y1 y2
      have hrd := hown.reads
      have hge := hown.ge
      have hkc : (ofL p l).length ≤ cc := by
        rw [← HofL.out]
        rcases hown.2 with ⟨e, _⟩ | ⟨g, cap, cur, e, _, _, h1, _⟩
        · injection e with _ e2 _; omega
        · injection e with _ _ e3; omega
      have hcm : cc ≤ maxLen := by
        rcases hown.2 with ⟨e, _⟩ | ⟨g, cap, cur, e, _, _, _, h1, _⟩
        · injection e with _ _ e3; omega
        · injection e with _ _ e3; omega
      have HBT := Lib.hid hbt
      have HRD := Lib.hid hrd
      have HGE := Lib.hid hge
      have HKC := Lib.hid hkc
      have HCM := Lib.hid hcm
      clear hbb hbt hRr hrd hge hown hbw hlenL hkc hcm
      generalize shiftL (l.take k) (fr l 0) = L at *
      go_wp2
      refine bodyPost_ret (v := .tuple #[.agg #[.int .i64 (o + fr l 0), .int .i64 (p / ((l.length : Int) / (k : Int))), .slice A L.length cc], .int .i64 0]) (by simp [results, Try.results18, go_sem, z0, z1, z2]) rfl ⟨⟨A, cc, ?_, ?_, HKC.out, HCM.out, HGE.out.mono (by omega)⟩, ?_⟩
      · rw [← HofL.out, HP.out]
      · rw [← HofL.out]
        exact ((HRD.out.far HGE.out (p := ⟨w.heap.size, 0, none⟩) (by simp; omega) _).far HGE.out (p := ⟨w.heap.size, 1, none⟩) (by simp; omega) _).far HGE.out (p := ⟨w.heap.size, 2, none⟩) (by simp; omega) _
      · exact ((HBT.out.setCell (by simp) _).setCell (by simp) _).setCell (by simp) _
end Go.Proofs.Ytnieceplfjmocaa
