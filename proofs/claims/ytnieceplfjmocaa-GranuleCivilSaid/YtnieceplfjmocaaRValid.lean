/-
  The reference's Valid: which calendars are valid.
-/
import Derived.Test.YtnieceplfjmocaaValid
namespace Go.Proofs.Ytnieceplfjmocaa
open Go.RowKit Go.BigFrame

theorem lis_at {A : Option Addr} {c : Nat} {l : List Sp} {v : Bool} (w : World) (h : SpsR w A l) (hn : l.length ≤ maxLen) (hv : ascB l = v) :
    Calls Try.prog 53 #[.slice A l.length c] w fun e w' => e = .returned (.bool v) ∧ Below w.heap.size w w' := hv ▸ lis_any A c l w h hn

theorem validB_n {o p : Int} {l : List Sp} (h : ¬ (0 < l.length)) : validB o p l = false := by
  have : decide (1 ≤ l.length) = false := decide_eq_false (by omega)
  simp only [validB, this]; rfl

set_option maxHeartbeats 2000000 in
theorem rv_r1 (o p : Int) (A : Option Addr) (c : Nat) (l : List Sp) (w : World) (h : SpsR w A l) (hn : l.length ≤ maxLen) (k : 5000 < l.length) :
    Calls Try.prog 20 #[.agg #[.int .i64 o, .int .i64 p, .slice A l.length c]] w fun e w' => e = .returned (.bool false) ∧ Below w.heap.size w w' := by
  have HN := Lib.hid hn
  have H := Lib.hid h
  unfold maxLen at hn
  have d1 : decide (5000 < (l.length : Int)) = true := by simp; omega
  clear h
  have hW1 := (Below.refl w.heap.size w).alloc (Nat.le_refl _) (.cells #[.int .i64 o, .int .i64 p, .slice A l.length c] 24)
  have HW := Lib.hid hW1
  clear hW1
  go_enter Try.func20, Try.ntmps20
  go_wp2
  go_ret
  exact ⟨rfl, HW.out⟩

set_option maxHeartbeats 2000000 in
theorem rv_r2 (o p : Int) (A : Option Addr) (c : Nat) (l : List Sp) (w : World) (h : SpsR w A l) (hn : l.length ≤ maxLen) (k0 : l.length ≤ 5000) (k : p < 1) :
    Calls Try.prog 20 #[.agg #[.int .i64 o, .int .i64 p, .slice A l.length c]] w fun e w' => e = .returned (.bool false) ∧ Below w.heap.size w w' := by
  have HN := Lib.hid hn
  have H := Lib.hid h
  unfold maxLen at hn
  have d1 : decide (5000 < (l.length : Int)) = false := by simp; omega
  have d2 : decide (p < 1) = true := by simp; omega
  clear h
  have hW1 := (Below.refl w.heap.size w).alloc (Nat.le_refl _) (.cells #[.int .i64 o, .int .i64 p, .slice A l.length c] 24)
  have HW := Lib.hid hW1
  clear hW1
  go_enter Try.func20, Try.ntmps20
  go_wp2
  go_ret
  exact ⟨rfl, HW.out⟩

set_option maxHeartbeats 2000000 in
theorem rv_r3 (o p : Int) (A : Option Addr) (c : Nat) (l : List Sp) (w : World) (h : SpsR w A l) (hn : l.length ≤ maxLen) (k0 : l.length ≤ 5000) (k1 : 1 ≤ p) (k : 12622780800 < p) :
    Calls Try.prog 20 #[.agg #[.int .i64 o, .int .i64 p, .slice A l.length c]] w fun e w' => e = .returned (.bool false) ∧ Below w.heap.size w w' := by
  have HN := Lib.hid hn
  have H := Lib.hid h
  unfold maxLen at hn
  have d1 : decide (5000 < (l.length : Int)) = false := by simp; omega
  have d2 : decide (p < 1) = false := by simp; omega
  have d3 : decide (12622780800 < p) = true := by simp; omega
  clear h
  have hW1 := (Below.refl w.heap.size w).alloc (Nat.le_refl _) (.cells #[.int .i64 o, .int .i64 p, .slice A l.length c] 24)
  have HW := Lib.hid hW1
  clear hW1
  go_enter Try.func20, Try.ntmps20
  go_wp2
  go_ret
  exact ⟨rfl, HW.out⟩

set_option maxHeartbeats 2000000 in
theorem rv_r4 (o p : Int) (A : Option Addr) (c : Nat) (l : List Sp) (w : World) (h : SpsR w A l) (hn : l.length ≤ maxLen) (k0 : l.length ≤ 5000) (k1 : 1 ≤ p) (k2 : p ≤ 12622780800) (k : o < -2199023255552) :
    Calls Try.prog 20 #[.agg #[.int .i64 o, .int .i64 p, .slice A l.length c]] w fun e w' => e = .returned (.bool false) ∧ Below w.heap.size w w' := by
  have HN := Lib.hid hn
  have H := Lib.hid h
  unfold maxLen at hn
  have d1 : decide (5000 < (l.length : Int)) = false := by simp; omega
  have d2 : decide (p < 1) = false := by simp; omega
  have d3 : decide (12622780800 < p) = false := by simp; omega
  have d4 : decide (o < -2199023255552) = true := by simp; omega
  clear h
  have hW1 := (Below.refl w.heap.size w).alloc (Nat.le_refl _) (.cells #[.int .i64 o, .int .i64 p, .slice A l.length c] 24)
  have HW := Lib.hid hW1
  clear hW1
  go_enter Try.func20, Try.ntmps20
  go_wp2
  go_ret
  exact ⟨rfl, HW.out⟩

set_option maxHeartbeats 2000000 in
theorem rv_r5 (o p : Int) (A : Option Addr) (c : Nat) (l : List Sp) (w : World) (h : SpsR w A l) (hn : l.length ≤ maxLen) (k0 : l.length ≤ 5000) (k1 : 1 ≤ p) (k2 : p ≤ 12622780800) (k3 : -2199023255552 ≤ o) (k : 2199023255552 < o) :
    Calls Try.prog 20 #[.agg #[.int .i64 o, .int .i64 p, .slice A l.length c]] w fun e w' => e = .returned (.bool false) ∧ Below w.heap.size w w' := by
  have HN := Lib.hid hn
  have H := Lib.hid h
  unfold maxLen at hn
  have d1 : decide (5000 < (l.length : Int)) = false := by simp; omega
  have d2 : decide (p < 1) = false := by simp; omega
  have d3 : decide (12622780800 < p) = false := by simp; omega
  have d4 : decide (o < -2199023255552) = false := by simp; omega
  have d5 : decide (2199023255552 < o) = true := by simp; omega
  clear h
  have hW1 := (Below.refl w.heap.size w).alloc (Nat.le_refl _) (.cells #[.int .i64 o, .int .i64 p, .slice A l.length c] 24)
  have HW := Lib.hid hW1
  clear hW1
  go_enter Try.func20, Try.ntmps20
  go_wp2
  go_ret
  exact ⟨rfl, HW.out⟩

set_option maxHeartbeats 2000000 in
theorem rv_r6 (o p : Int) (A : Option Addr) (c : Nat) (l : List Sp) (w : World) (h : SpsR w A l) (hn : l.length ≤ maxLen) (k0 : l.length ≤ 5000) (k1 : 1 ≤ p) (k2 : p ≤ 12622780800) (k3 : -2199023255552 ≤ o) (k4 : o ≤ 2199023255552) (k : ascB l = false) :
    Calls Try.prog 20 #[.agg #[.int .i64 o, .int .i64 p, .slice A l.length c]] w fun e w' => e = .returned (.bool false) ∧ Below w.heap.size w w' := by
  have HN := Lib.hid hn
  have H := Lib.hid h
  unfold maxLen at hn
  have d1 : decide (5000 < (l.length : Int)) = false := by simp; omega
  have d2 : decide (p < 1) = false := by simp; omega
  have d3 : decide (12622780800 < p) = false := by simp; omega
  have d4 : decide (o < -2199023255552) = false := by simp; omega
  have d5 : decide (2199023255552 < o) = false := by simp; omega
  have HA := Lib.hid k
  clear k
  clear h
  have hW1 := (Below.refl w.heap.size w).alloc (Nat.le_refl _) (.cells #[.int .i64 o, .int .i64 p, .slice A l.length c] 24)
  have HW := Lib.hid hW1
  clear hW1
  go_enter Try.func20, Try.ntmps20
  go_wp2_with (go_at_call 53; refine (lis_at _ (H.out.below HW.out) HN.out HA.out).mono ?_; rintro e w1 ⟨rfl, hb1⟩)
  go_ret
  exact ⟨rfl, below_next HW.out hb1⟩

set_option maxHeartbeats 2000000 in
theorem rv_r7 (o p : Int) (A : Option Addr) (c : Nat) (l : List Sp) (w : World) (h : SpsR w A l) (hn : l.length ≤ maxLen) (k0 : l.length ≤ 5000) (k1 : 1 ≤ p) (k2 : p ≤ 12622780800) (k3 : -2199023255552 ≤ o) (k4 : o ≤ 2199023255552) (k : ascB l = true) (k5 : ¬ fr l 0 = 0) :
    Calls Try.prog 20 #[.agg #[.int .i64 o, .int .i64 p, .slice A l.length c]] w fun e w' => e = .returned (.bool false) ∧ Below w.heap.size w w' := by
  have HN := Lib.hid hn
  have H := Lib.hid h
  unfold maxLen at hn
  have d1 : decide (5000 < (l.length : Int)) = false := by simp; omega
  have d2 : decide (p < 1) = false := by simp; omega
  have d3 : decide (12622780800 < p) = false := by simp; omega
  have d4 : decide (o < -2199023255552) = false := by simp; omega
  have d5 : decide (2199023255552 < o) = false := by simp; omega
  have HA := Lib.hid k
  clear k
  have hl0 := asc_ne HA.out
  obtain ⟨b, o', rfl, hc⟩ := h hl0
  have c1 := (hc 0 hl0).1
  have c2 := (hc (l.length - 1) (by omega)).2
  clear hc
  have d7 : (fr l 0 == 0) = false := by simpa using k5
  clear h
  have hW1 := (Below.refl w.heap.size w).alloc (Nat.le_refl _) (.cells #[.int .i64 o, .int .i64 p, .slice (some ⟨b, o', none⟩) l.length c] 24)
  have hB := Blk.new w 24 #[.int .i64 o, .int .i64 p, .slice (some ⟨b, o', none⟩) l.length c]
  have HW := Lib.hid hW1
  have HB := Lib.hid hB
  clear hW1 hB
  go_enter Try.func20, Try.ntmps20
  go_wp2_with (go_at_call 53; refine (lis_at _ (H.out.below HW.out) HN.out HA.out).mono ?_; rintro e w1 ⟨rfl, hb1⟩)
  refine wp_region_below (by kernel_rfl) (by kernel_rfl) ?_
  intro W hW
  have hb2 : Below w.heap.size w W := by rw [hW]; exact below_next HW.out hb1
  have hBW : Blk W w.heap.size 24 #[.int .i64 o, .int .i64 p, .slice (some ⟨b, o', none⟩) l.length c] := by rw [hW]; exact HB.out.below hb1
  have e2 : ∀ z : Bw W, z.1.cell? ⟨w.heap.size, 1, none⟩ = some (.int .i64 p) := fun z => z.cell (hBW.cell 1)
  have e3 : ∀ z : Bw W, z.1.cell? ⟨w.heap.size, 2, none⟩ = some (.slice (some ⟨b, o', none⟩) l.length c) := fun z => z.cell (hBW.cell 2)
  have e4 : ∀ z : Bw W, z.1.cell? ⟨b, o', none⟩ = some (.int .i64 (fr l 0)) := fun z => z.old hb2 (by simpa using c1)
  have e5 : ∀ z : Bw W, z.1.cell? ⟨b, o' + (l.length - 1) * 2 + 1, none⟩ = some (.int .i64 (tt l (l.length - 1))) := fun z => z.old hb2 c2
  have HS := Lib.hid (fun z : Bw W => (H.out.below hb2).below z.2)
  clear hW c1 c2 hBW hb1
  repeat (go_big_quiet_step ((go_at_call 54; exact quiet_d (rleast_any _ _ _ _ _ (HS.out _) HN.out hl0 k1 k2 (asc_bd HA.out)))))
  refine wpQuiet_nil ?_
  rintro wq ⟨⟨_, hq⟩, rfl⟩
  have hbq := below_next hb2 hq
  clear e2 e3 e4 e5
  go_wp2
  go_ret
  exact ⟨rfl, hbq⟩

set_option maxHeartbeats 2000000 in
theorem rv_r8 (o p : Int) (A : Option Addr) (c : Nat) (l : List Sp) (w : World) (h : SpsR w A l) (hn : l.length ≤ maxLen) (k0 : l.length ≤ 5000) (k1 : 1 ≤ p) (k2 : p ≤ 12622780800) (k3 : -2199023255552 ≤ o) (k4 : o ≤ 2199023255552) (k : ascB l = true) (k5 : fr l 0 = 0) (k6 : p < tt l (l.length - 1)) :
    Calls Try.prog 20 #[.agg #[.int .i64 o, .int .i64 p, .slice A l.length c]] w fun e w' => e = .returned (.bool false) ∧ Below w.heap.size w w' := by
  have HN := Lib.hid hn
  have H := Lib.hid h
  unfold maxLen at hn
  have d1 : decide (5000 < (l.length : Int)) = false := by simp; omega
  have d2 : decide (p < 1) = false := by simp; omega
  have d3 : decide (12622780800 < p) = false := by simp; omega
  have d4 : decide (o < -2199023255552) = false := by simp; omega
  have d5 : decide (2199023255552 < o) = false := by simp; omega
  have HA := Lib.hid k
  clear k
  have hl0 := asc_ne HA.out
  obtain ⟨b, o', rfl, hc⟩ := h hl0
  have c1 := (hc 0 hl0).1
  have c2 := (hc (l.length - 1) (by omega)).2
  clear hc
  have d7 : (fr l 0 == 0) = true := by simpa using k5
  clear k5
  have d8 : decide (tt l (l.length - 1) ≤ p) = false := by simp; omega
  clear h
  have hW1 := (Below.refl w.heap.size w).alloc (Nat.le_refl _) (.cells #[.int .i64 o, .int .i64 p, .slice (some ⟨b, o', none⟩) l.length c] 24)
  have hB := Blk.new w 24 #[.int .i64 o, .int .i64 p, .slice (some ⟨b, o', none⟩) l.length c]
  have HW := Lib.hid hW1
  have HB := Lib.hid hB
  clear hW1 hB
  go_enter Try.func20, Try.ntmps20
  go_wp2_with (go_at_call 53; refine (lis_at _ (H.out.below HW.out) HN.out HA.out).mono ?_; rintro e w1 ⟨rfl, hb1⟩)
  refine wp_region_below (by kernel_rfl) (by kernel_rfl) ?_
  intro W hW
  have hb2 : Below w.heap.size w W := by rw [hW]; exact below_next HW.out hb1
  have hBW : Blk W w.heap.size 24 #[.int .i64 o, .int .i64 p, .slice (some ⟨b, o', none⟩) l.length c] := by rw [hW]; exact HB.out.below hb1
  have e2 : ∀ z : Bw W, z.1.cell? ⟨w.heap.size, 1, none⟩ = some (.int .i64 p) := fun z => z.cell (hBW.cell 1)
  have e3 : ∀ z : Bw W, z.1.cell? ⟨w.heap.size, 2, none⟩ = some (.slice (some ⟨b, o', none⟩) l.length c) := fun z => z.cell (hBW.cell 2)
  have e4 : ∀ z : Bw W, z.1.cell? ⟨b, o', none⟩ = some (.int .i64 (fr l 0)) := fun z => z.old hb2 (by simpa using c1)
  have e5 : ∀ z : Bw W, z.1.cell? ⟨b, o' + (l.length - 1) * 2 + 1, none⟩ = some (.int .i64 (tt l (l.length - 1))) := fun z => z.old hb2 c2
  have HS := Lib.hid (fun z : Bw W => (H.out.below hb2).below z.2)
  clear hW c1 c2 hBW hb1
  repeat (go_big_quiet_step ((go_at_call 54; exact quiet_d (rleast_any _ _ _ _ _ (HS.out _) HN.out hl0 k1 k2 (asc_bd HA.out)))))
  refine wpQuiet_nil ?_
  rintro wq ⟨⟨_, hq⟩, rfl⟩
  have hbq := below_next hb2 hq
  clear e2 e3 e4 e5
  go_wp2
  go_ret
  exact ⟨rfl, hbq⟩

set_option maxHeartbeats 2000000 in
theorem rv_r9 (o p : Int) (A : Option Addr) (c : Nat) (l : List Sp) (w : World) (h : SpsR w A l) (hn : l.length ≤ maxLen) (k0 : l.length ≤ 5000) (k1 : 1 ≤ p) (k2 : p ≤ 12622780800) (k3 : -2199023255552 ≤ o) (k4 : o ≤ 2199023255552) (k : ascB l = true) (k5 : fr l 0 = 0) (k6 : tt l (l.length - 1) ≤ p) :
    Calls Try.prog 20 #[.agg #[.int .i64 o, .int .i64 p, .slice A l.length c]] w fun e w' => e = .returned (.bool (leastN p l == l.length)) ∧ Below w.heap.size w w' := by
  have HN := Lib.hid hn
  have H := Lib.hid h
  unfold maxLen at hn
  have d1 : decide (5000 < (l.length : Int)) = false := by simp; omega
  have d2 : decide (p < 1) = false := by simp; omega
  have d3 : decide (12622780800 < p) = false := by simp; omega
  have d4 : decide (o < -2199023255552) = false := by simp; omega
  have d5 : decide (2199023255552 < o) = false := by simp; omega
  have HA := Lib.hid k
  clear k
  have hl0 := asc_ne HA.out
  obtain ⟨b, o', rfl, hc⟩ := h hl0
  have c1 := (hc 0 hl0).1
  have c2 := (hc (l.length - 1) (by omega)).2
  clear hc
  have d7 : (fr l 0 == 0) = true := by simpa using k5
  clear k5
  have d8 : decide (tt l (l.length - 1) ≤ p) = true := by simp; omega
  clear h
  have hW1 := (Below.refl w.heap.size w).alloc (Nat.le_refl _) (.cells #[.int .i64 o, .int .i64 p, .slice (some ⟨b, o', none⟩) l.length c] 24)
  have hB := Blk.new w 24 #[.int .i64 o, .int .i64 p, .slice (some ⟨b, o', none⟩) l.length c]
  have HW := Lib.hid hW1
  have HB := Lib.hid hB
  clear hW1 hB
  go_enter Try.func20, Try.ntmps20
  go_wp2_with (go_at_call 53; refine (lis_at _ (H.out.below HW.out) HN.out HA.out).mono ?_; rintro e w1 ⟨rfl, hb1⟩)
  refine wp_region_below (by kernel_rfl) (by kernel_rfl) ?_
  intro W hW
  have hb2 : Below w.heap.size w W := by rw [hW]; exact below_next HW.out hb1
  have hBW : Blk W w.heap.size 24 #[.int .i64 o, .int .i64 p, .slice (some ⟨b, o', none⟩) l.length c] := by rw [hW]; exact HB.out.below hb1
  have e2 : ∀ z : Bw W, z.1.cell? ⟨w.heap.size, 1, none⟩ = some (.int .i64 p) := fun z => z.cell (hBW.cell 1)
  have e3 : ∀ z : Bw W, z.1.cell? ⟨w.heap.size, 2, none⟩ = some (.slice (some ⟨b, o', none⟩) l.length c) := fun z => z.cell (hBW.cell 2)
  have e4 : ∀ z : Bw W, z.1.cell? ⟨b, o', none⟩ = some (.int .i64 (fr l 0)) := fun z => z.old hb2 (by simpa using c1)
  have e5 : ∀ z : Bw W, z.1.cell? ⟨b, o' + (l.length - 1) * 2 + 1, none⟩ = some (.int .i64 (tt l (l.length - 1))) := fun z => z.old hb2 c2
  have HS := Lib.hid (fun z : Bw W => (H.out.below hb2).below z.2)
  clear hW c1 c2 hBW hb1
  repeat (go_big_quiet_step ((go_at_call 54; exact quiet_d (rleast_any _ _ _ _ _ (HS.out _) HN.out hl0 k1 k2 (asc_bd HA.out)))))
  refine wpQuiet_nil ?_
  rintro wq ⟨⟨_, hq⟩, rfl⟩
  have hbq := below_next hb2 hq
  clear e2 e3 e4 e5
  go_wp2
  go_ret
  exact ⟨ret_bool (nat_beq _ _), hbq⟩

theorem rvalidC_any (o p : Int) (A : Option Addr) (c : Nat) (l : List Sp) (w : World) (h : SpsR w A l) (hn : l.length ≤ maxLen) :
    Calls Try.prog 20 #[.agg #[.int .i64 o, .int .i64 p, .slice A l.length c]] w fun e w' => e = .returned (.bool (validB o p l)) ∧ Below w.heap.size w w' := by
  by_cases h0 : 0 < l.length
  · have F : vtest o p l = false → validB o p l = false := validB_f h0
    by_cases k0 : 5000 < l.length
    · rw [F (by simp only [vtest, decide_eq_false (show ¬ l.length ≤ 5000 by omega)]; rfl)]; exact rv_r1 o p A c l w h hn k0
    by_cases k1 : p < 1
    · rw [F (by simp only [vtest, decide_eq_false (show ¬ 1 ≤ p by omega)]; simp)]; exact rv_r2 o p A c l w h hn (by omega) k1
    by_cases k2 : 12622780800 < p
    · rw [F (by simp only [vtest, decide_eq_false (show ¬ p ≤ 12622780800 by omega)]; simp)]; exact rv_r3 o p A c l w h hn (by omega) (by omega) k2
    by_cases k3 : o < -2199023255552
    · rw [F (by have : halfB o = false := by simp [halfB]; omega
                simp [vtest, this])]; exact rv_r4 o p A c l w h hn (by omega) (by omega) (by omega) k3
    by_cases k4 : 2199023255552 < o
    · rw [F (by have : halfB o = false := by simp [halfB]; omega
                simp [vtest, this])]; exact rv_r5 o p A c l w h hn (by omega) (by omega) (by omega) (by omega) k4
    by_cases k5 : ascB l = false
    · rw [F (by simp [vtest, k5])]; exact rv_r6 o p A c l w h hn (by omega) (by omega) (by omega) (by omega) (by omega) k5
    have k5' : ascB l = true := by simpa using k5
    by_cases k6 : fr l 0 = 0
    · by_cases k7 : p < tt l (l.length - 1)
      · rw [F (by simp only [vtest, decide_eq_false (show ¬ tt l (l.length - 1) ≤ p by omega)]; simp)]; exact rv_r8 o p A c l w h hn (by omega) (by omega) (by omega) (by omega) (by omega) k5' k6 k7
      · rw [validB_t h0 (by have : halfB o = true := by simp [halfB]; omega
                            simp only [vtest, this, k5', k6, decide_eq_true (show l.length ≤ 5000 by omega), decide_eq_true (show 1 ≤ p by omega), decide_eq_true (show p ≤ 12622780800 by omega), decide_eq_true (show tt l (l.length - 1) ≤ p by omega)]; rfl)]
        exact rv_r9 o p A c l w h hn (by omega) (by omega) (by omega) (by omega) (by omega) k5' k6 (by omega)
    · rw [F (by simp [vtest, k6])]; exact rv_r7 o p A c l w h hn (by omega) (by omega) (by omega) (by omega) (by omega) k5' k6
  · rw [validB_n h0]
    have ha : ascB l = false := by
      cases ha : ascB l with
      | false => rfl
      | true => exact absurd (asc_ne ha) h0
    by_cases k1 : p < 1
    · exact rv_r2 o p A c l w h hn (by omega) k1
    by_cases k2 : 12622780800 < p
    · exact rv_r3 o p A c l w h hn (by omega) (by omega) k2
    by_cases k3 : o < -2199023255552
    · exact rv_r4 o p A c l w h hn (by omega) (by omega) (by omega) k3
    by_cases k4 : 2199023255552 < o
    · exact rv_r5 o p A c l w h hn (by omega) (by omega) (by omega) (by omega) k4
    exact rv_r6 o p A c l w h hn (by omega) (by omega) (by omega) (by omega) (by omega) ha

/-- granule.Valid of any list -/
theorem validC_any (o p : Int) (A : Option Addr) (c : Nat) (l : List Sp) (w : World) (h : SpsR w A l) (hn : l.length ≤ maxLen) :
    Calls Try.prog 13 #[.agg #[.int .i64 o, .int .i64 p, .slice A l.length c]] w fun e w' => e = .returned (.bool (validB o p l)) ∧ Below w.heap.size w w' := by
  by_cases h0 : 0 < l.length
  · exact valid_any o p A c l w h hn h0
  · have hl : l = [] := List.length_eq_zero_iff.1 (by omega)
    rw [validB_n h0]
    subst hl
    exact valid_nil o p A c w
end Go.Proofs.Ytnieceplfjmocaa
