/-
  granule.Valid: which calendars are valid.
-/
import Derived.Test.YtnieceplfjmocaaAsc
import Derived.Test.YtnieceplfjmocaaRLeast
namespace Go.Proofs.Ytnieceplfjmocaa
open Go.RowKit Go.BigFrame

def validB (o p : Int) (l : List Sp) : Bool :=
  decide (1 ≤ l.length) && (decide (l.length ≤ 5000) && (decide (1 ≤ p) && (decide (p ≤ 12622780800) && (halfB o && (ascB l && (fr l 0 == 0 && (decide (tt l (l.length - 1) ≤ p) && leastN p l == l.length)))))))

theorem asc_bd {l : List Sp} (h : ascB l = true) : BdS l := fun k hk => by
  have h1 := (ascB_iff.1 h).2 k hk
  simp only [ascAt, Bool.and_eq_true] at h1
  have := ivB_iff.1 h1.1
  omega

theorem asc_at {A : Option Addr} {c : Nat} {l : List Sp} {v : Bool} (w : World) (h : SpsR w A l) (hn : l.length ≤ maxLen) (hv : ascB l = v) :
    Calls Try.prog 48 #[.slice A l.length c] w fun e w' => e = .returned (.bool v) ∧ Below w.heap.size w w' := hv ▸ asc_any A c l w h hn

set_option maxHeartbeats 400000 in
theorem valid_nil (o p : Int) (A : Option Addr) (c : Nat) (w : World) :
    Calls Try.prog 13 #[.agg #[.int .i64 o, .int .i64 p, .slice A 0 c]] w fun e w' => e = .returned (.bool false) ∧ Below w.heap.size w w' := by
  go_enter Try.func13, Try.ntmps13
  go_wp2_with fail
  refine wp_region_below (by kernel_rfl) (by kernel_rfl) ?_
  intro W hW
  have e3 : ∀ z : Bw W, z.1.cell? ⟨w.heap.size, 2, none⟩ = some (.slice A 0 c) := fun z => z.cell (by rw [hW]; simp [go_sem])
  have hWb : Below w.heap.size w W := by rw [hW]; exact (Below.refl _ _).alloc (Nat.le_refl _) _
  clear hW
  repeat (go_big_quiet_step (fail))
  refine wpQuiet_nil ?_
  rintro wq ⟨⟨_, hq⟩, rfl⟩
  go_wp2
  go_ret
  exact ⟨rfl, below_next hWb hq⟩

/-- what the great test of Valid comes to -/
def vtest (o p : Int) (l : List Sp) : Bool :=
  decide (l.length ≤ 5000) && (decide (1 ≤ p) && (decide (p ≤ 12622780800) && (halfB o && (ascB l && (fr l 0 == 0 && decide (tt l (l.length - 1) ≤ p))))))

theorem validB_f {o p : Int} {l : List Sp} (h0 : 0 < l.length) (h : vtest o p l = false) : validB o p l = false := by
  simp only [vtest, validB] at *
  rw [decide_eq_true (show 1 ≤ l.length from h0), Bool.true_and]
  revert h
  cases decide (l.length ≤ 5000) <;> cases decide (1 ≤ p) <;> cases decide (p ≤ 12622780800) <;> cases halfB o <;> cases ascB l <;> cases (fr l 0 == 0) <;> cases decide (tt l (l.length - 1) ≤ p) <;> simp
theorem validB_t {o p : Int} {l : List Sp} (h0 : 0 < l.length) (h : vtest o p l = true) : validB o p l = (leastN p l == l.length) := by
  simp only [vtest, validB] at *
  rw [decide_eq_true (show 1 ≤ l.length from h0), Bool.true_and]
  revert h
  cases decide (l.length ≤ 5000) <;> cases decide (1 ≤ p) <;> cases decide (p ≤ 12622780800) <;> cases halfB o <;> cases ascB l <;> cases (fr l 0 == 0) <;> cases decide (tt l (l.length - 1) ≤ p) <;> simp

set_option maxHeartbeats 4000000 in
theorem valid_any (o p : Int) (A : Option Addr) (c : Nat) (l : List Sp) (w : World) (h : SpsR w A l) (hn : l.length ≤ maxLen) (h0 : 0 < l.length) :
    Calls Try.prog 13 #[.agg #[.int .i64 o, .int .i64 p, .slice A l.length c]] w fun e w' => e = .returned (.bool (validB o p l)) ∧ Below w.heap.size w w' := by
  have hn' := hn
  unfold maxLen at hn
  have HN := Lib.hid hn'
  have H := Lib.hid h
  obtain ⟨b, o', rfl, hc⟩ := h h0
  have c1 := (hc 0 h0).1
  have c2 := (hc (l.length - 1) (by omega)).2
  clear h hn' hc
  go_enter Try.func13, Try.ntmps13
  go_wp2_with fail
  refine wp_region_below (by kernel_rfl) (by kernel_rfl) ?_
  intro W hW
  have hWb : Below w.heap.size w W := by rw [hW]; exact (Below.refl _ _).alloc (Nat.le_refl _) _
  have e1 : ∀ z : Bw W, z.1.cell? ⟨w.heap.size, 0, none⟩ = some (.int .i64 o) := fun z => z.cell (by rw [hW]; simp [go_sem])
  have e2 : ∀ z : Bw W, z.1.cell? ⟨w.heap.size, 1, none⟩ = some (.int .i64 p) := fun z => z.cell (by rw [hW]; simp [go_sem])
  have e3 : ∀ z : Bw W, z.1.cell? ⟨w.heap.size, 2, none⟩ = some (.slice (some ⟨b, o', none⟩) l.length c) := fun z => z.cell (by rw [hW]; simp [go_sem])
  have e4 : ∀ z : Bw W, z.1.cell? ⟨b, o', none⟩ = some (.int .i64 (fr l 0)) := fun z => z.old hWb (by simpa using c1)
  have e5 : ∀ z : Bw W, z.1.cell? ⟨b, o' + (l.length - 1) * 2 + 1, none⟩ = some (.int .i64 (tt l (l.length - 1))) := fun z => z.old hWb c2
  have HS := Lib.hid (fun z : Bw W => (H.out.below hWb).below z.2)
  clear hW c1 c2
  have d1 : decide ((l.length : Int) < 1) = false := by simp; omega
  have KF := Lib.hid (fun h : vtest o p l = false => (validB_f h0 h).symm)
  by_cases k2 : 5000 < l.length
  · have dt : decide (5000 < (l.length : Int)) = true := by simp; omega
    have K := Lib.hid (KF.out (by simp only [vtest, decide_eq_false (by omega : ¬ l.length ≤ 5000)]; simp))
    repeat (go_big_quiet_step ((first | (go_at_call 47; exact quiet_s (ghalf_at _ HH.out)) | (go_at_call 48; exact quiet_b (asc_at _ (HS.out _) HN.out HA.out)))))
    refine wpQuiet_nil ?_
    rintro wq ⟨⟨_, hq⟩, rfl⟩
    have hbq := below_next hWb hq
    clear e1 e2 e3 e4 e5
    go_wp2
    go_ret
    exact ⟨ret_bool K.out, hbq⟩
  have d2 : decide (5000 < (l.length : Int)) = false := by simp; omega
  by_cases k3 : p < 1
  · have dt : decide (p < 1) = true := by simp; omega
    have K := Lib.hid (KF.out (by simp only [vtest, decide_eq_false (by omega : ¬ 1 ≤ p)]; simp))
    repeat (go_big_quiet_step ((first | (go_at_call 47; exact quiet_s (ghalf_at _ HH.out)) | (go_at_call 48; exact quiet_b (asc_at _ (HS.out _) HN.out HA.out)))))
    refine wpQuiet_nil ?_
    rintro wq ⟨⟨_, hq⟩, rfl⟩
    have hbq := below_next hWb hq
    clear e1 e2 e3 e4 e5
    go_wp2
    go_ret
    exact ⟨ret_bool K.out, hbq⟩
  have d3 : decide (p < 1) = false := by simp; omega
  by_cases k4 : 12622780800 < p
  · have dt : decide (12622780800 < p) = true := by simp; omega
    have K := Lib.hid (KF.out (by simp only [vtest, decide_eq_false (by omega : ¬ p ≤ 12622780800)]; simp))
    repeat (go_big_quiet_step ((first | (go_at_call 47; exact quiet_s (ghalf_at _ HH.out)) | (go_at_call 48; exact quiet_b (asc_at _ (HS.out _) HN.out HA.out)))))
    refine wpQuiet_nil ?_
    rintro wq ⟨⟨_, hq⟩, rfl⟩
    have hbq := below_next hWb hq
    clear e1 e2 e3 e4 e5
    go_wp2
    go_ret
    exact ⟨ret_bool K.out, hbq⟩
  have d4 : decide (12622780800 < p) = false := by simp; omega
  by_cases k5 : halfB o = false
  · have HH := Lib.hid k5
    have K := Lib.hid (KF.out (by simp [vtest, k5]))
    clear k5
    repeat (go_big_quiet_step ((first | (go_at_call 47; exact quiet_s (ghalf_at _ HH.out)) | (go_at_call 48; exact quiet_b (asc_at _ (HS.out _) HN.out HA.out)))))
    refine wpQuiet_nil ?_
    rintro wq ⟨⟨_, hq⟩, rfl⟩
    have hbq := below_next hWb hq
    clear e1 e2 e3 e4 e5
    go_wp2
    go_ret
    exact ⟨ret_bool K.out, hbq⟩
  have k5' : halfB o = true := by simpa using k5
  have HH := Lib.hid k5'
  clear k5 k5'
  by_cases k6 : ascB l = false
  · have HA := Lib.hid k6
    have K := Lib.hid (KF.out (by simp [vtest, k6]))
    clear k6
    repeat (go_big_quiet_step ((first | (go_at_call 47; exact quiet_s (ghalf_at _ HH.out)) | (go_at_call 48; exact quiet_b (asc_at _ (HS.out _) HN.out HA.out)))))
    refine wpQuiet_nil ?_
    rintro wq ⟨⟨_, hq⟩, rfl⟩
    have hbq := below_next hWb hq
    clear e1 e2 e3 e4 e5
    go_wp2
    go_ret
    exact ⟨ret_bool K.out, hbq⟩
  have k6' : ascB l = true := by simpa using k6
  have HA := Lib.hid k6'
  clear k6 k6'
  by_cases k7 : ¬ fr l 0 = 0
  · have dt : (fr l 0 != 0) = true := by simpa using k7
    have K := Lib.hid (KF.out (by simp [vtest, k7]))
    clear k7
    repeat (go_big_quiet_step ((first | (go_at_call 47; exact quiet_s (ghalf_at _ HH.out)) | (go_at_call 48; exact quiet_b (asc_at _ (HS.out _) HN.out HA.out)))))
    refine wpQuiet_nil ?_
    rintro wq ⟨⟨_, hq⟩, rfl⟩
    have hbq := below_next hWb hq
    clear e1 e2 e3 e4 e5
    go_wp2
    go_ret
    exact ⟨ret_bool K.out, hbq⟩
  have d7 : (fr l 0 != 0) = false := by simpa using k7
  have k7' : fr l 0 = 0 := by simpa using k7
  have H7 := Lib.hid k7'
  clear k7 k7'
  by_cases k8 : p < tt l (l.length - 1)
  · have dt : decide (p < tt l (l.length - 1)) = true := by simp; omega
    have K := Lib.hid (KF.out (by simp only [vtest, decide_eq_false (by omega : ¬ tt l (l.length - 1) ≤ p)]; simp))
    repeat (go_big_quiet_step ((first | (go_at_call 47; exact quiet_s (ghalf_at _ HH.out)) | (go_at_call 48; exact quiet_b (asc_at _ (HS.out _) HN.out HA.out)))))
    refine wpQuiet_nil ?_
    rintro wq ⟨⟨_, hq⟩, rfl⟩
    have hbq := below_next hWb hq
    clear e1 e2 e3 e4 e5
    go_wp2
    go_ret
    exact ⟨ret_bool K.out, hbq⟩
  have d8 : decide (p < tt l (l.length - 1)) = false := by simp; omega
  repeat (go_big_quiet_step ((first | (go_at_call 47; exact quiet_s (ghalf_at _ HH.out)) | (go_at_call 48; exact quiet_b (asc_at _ (HS.out _) HN.out HA.out)))))
  refine wpQuiet_nil ?_
  rintro wq ⟨⟨_, hq⟩, rfl⟩
  have hbq := below_next hWb hq
  have g1 : wq.cell? ⟨w.heap.size, 1, none⟩ = some (.int .i64 p) := e2 ⟨wq, hq⟩
  have g2 : wq.cell? ⟨w.heap.size, 2, none⟩ = some (.slice (some ⟨b, o', none⟩) l.length c) := e3 ⟨wq, hq⟩
  have K := Lib.hid (validB_t (o := o) (p := p) h0 (by simp only [vtest, HH.out, HA.out, H7.out, decide_eq_true (show l.length ≤ 5000 by omega), decide_eq_true (show 1 ≤ p by omega), decide_eq_true (show p ≤ 12622780800 by omega), decide_eq_true (show tt l (l.length - 1) ≤ p by omega)]; rfl))
  clear e1 e2 e3 e4 e5
  go_wp2_with (go_at_call 49; refine (least_any _ _ _ _ _ ((H.out.below hbq)) HN.out h0 (by omega) (by omega) (asc_bd HA.out)).mono ?_; rintro e w' ⟨rfl, q, rfl⟩)
  go_ret
  exact ⟨ret_bool (by rw [K.out]; exact nat_beq _ _), below_drewN hbq q⟩
end Go.Proofs.Ytnieceplfjmocaa
