/-
  granule.ascending and the reference's listed: spans are valid, and each begins where the one before ends, or later.
-/
import Derived.Test.YtnieceplfjmocaaIv
namespace Go.Proofs.Ytnieceplfjmocaa
open Go.RowKit Go.BigFrame

/-- span k is valid, and begins where the one before ends, or later -/
def ascAt (l : List Sp) (k : Nat) : Bool := ivB (fr l k) (tt l k) && (k == 0 || decide (tt l (k - 1) ≤ fr l k))
def ascB (l : List Sp) : Bool := (List.range l.length).all (ascAt l) && decide (0 < l.length)

theorem ascB_false_at {l : List Sp} {k : Nat} (hk : k < l.length) (h : ascAt l k = false) : false = ascB l := by
  symm; simp only [ascB, Bool.and_eq_false_iff]; left
  rw [List.all_eq_false]; exact ⟨k, by simpa using hk, by simp [h]⟩
theorem ascB_all {l : List Sp} (h : ∀ j, j < l.length → ascAt l j = true) : decide (0 < l.length) = ascB l := by
  have : (List.range l.length).all (ascAt l) = true := by rw [List.all_eq_true]; intro j hj; exact h j (by simpa using hj)
  simp [ascB, this]
theorem ascB_iff {l : List Sp} : ascB l = true ↔ 0 < l.length ∧ ∀ j, j < l.length → ascAt l j = true := by
  constructor
  · intro h
    simp only [ascB, Bool.and_eq_true, decide_eq_true_eq, List.all_eq_true, List.mem_range] at h
    exact ⟨h.2, h.1⟩
  · intro ⟨h0, h⟩; rw [← ascB_all h]; simpa using h0

theorem asc_ne {l : List Sp} (h : ascB l = true) : 0 < l.length := (ascB_iff.1 h).1
theorem asc_iv {l : List Sp} (h : ascB l = true) {k : Nat} (hk : k < l.length) : -4398046511104 ≤ fr l k ∧ fr l k < tt l k ∧ tt l k ≤ 4398046511104 := by
  have h1 := (ascB_iff.1 h).2 k hk
  simp only [ascAt, Bool.and_eq_true] at h1
  exact ivB_iff.1 h1.1

set_option maxHeartbeats 1000000 in
theorem asc_any (A : Option Addr) (c : Nat) (l : List Sp) (w : World) (h : SpsR w A l) (hn : l.length ≤ maxLen) :
    Calls Try.prog 48 #[.slice A l.length c] w fun e w' => e = .returned (.bool (ascB l)) ∧ Below w.heap.size w w' := by
  unfold maxLen at hn
  go_enter Try.func48, Try.ntmps48
  go_wp2
  go_loopw [7] (fun i wr => ∃ k : Nat, k ≤ l.length ∧ i = .int .i64 k ∧ (∀ j, j < k → ascAt l j = true) ∧ Below w.heap.size w wr) (fun i _ => l.length - (intOf i).toNat)
  case atStart => exact ⟨0, Nat.zero_le _, rfl, by omega, Below.refl _ _⟩
  case round =>
    obtain ⟨k, hk, rfl, hj, hb⟩ := hrel
    by_cases hlt : k < l.length
    · obtain ⟨b, o, rfl, hc⟩ := h.below hb (by omega)
      have c1 := (hc k hlt).1
      have c2 := (hc k hlt).2
      clear h
      go_wp2_with fail
      refine wp_region_below (by kernel_rfl) (by kernel_rfl) ?_
      intro W hW
      have e1 : ∀ z : Bw W, z.1.cell? ⟨wr.heap.size, 0, none⟩ = some (.int .i64 (fr l k)) := fun z => z.cell (by rw [hW]; simp [go_sem])
      have e2 : ∀ z : Bw W, z.1.cell? ⟨wr.heap.size, 1, none⟩ = some (.int .i64 (tt l k)) := fun z => z.cell (by rw [hW]; simp [go_sem])
      have hW1 : Below wr.heap.size wr W := by rw [hW]; exact (Below.refl _ _).alloc (Nat.le_refl _) _
      have e3 : ∀ z : Bw W, z.1.cell? ⟨b, o + (k - 1) * 2 + 1, none⟩ = some (.int .i64 (tt l (k-1))) := fun z => z.old hW1 (hc (k-1) (by omega)).2
      clear hW c1 c2 hc
      have HJ := Lib.hid hj
      clear hj
      by_cases hiv : ivB (fr l k) (tt l k) = true
      · by_cases hk0 : 0 < k
        · have hk1 : (0:Int) < (k:Int) := by omega
          repeat (go_big_quiet_step ((go_at_call 33; exact quiet_b (ivalid_at hiv _))))
          refine wpQuiet_nil ?_
          rintro wq ⟨⟨_, hq⟩, rfl⟩
          have hbq : Below w.heap.size w wq := below_up hb (below_next hW1 hq) hb.size
          clear e1 e2 e3 hq hW1
          by_cases hcmp : fr l k < tt l (k - 1)
          · have hA : ascAt l k = false := by simp [ascAt]; omega
            have HA := Lib.hid (ascB_false_at hlt hA)
            clear hA hiv
            go_wp2
            go_ret
            exact ⟨ret_bool HA.out, hbq⟩
          · have hA : ascAt l k = true := by simp [ascAt, hiv]; omega
            have HA := Lib.hid hA
            clear hA hiv
            go_wp2
            go_roundw
            case rel => exact ⟨k + 1, by omega, by go_num, allLt_succ HJ.out HA.out, hbq⟩
            case measure => simp [intOf]; omega
        · have hk1 : ¬ (0:Int) < (k:Int) := by omega
          have hk2 : decide ((0:Int) < (k:Int)) = false := by simp; omega
          have hA : ascAt l k = true := by have : k = 0 := by omega
                                           subst this; simp [ascAt, hiv]
          have HA := Lib.hid hA
          clear hA
          repeat (go_big_quiet_step ((go_at_call 33; exact quiet_b (ivalid_at hiv _))))
          refine wpQuiet_nil ?_
          rintro wq ⟨⟨_, hq⟩, rfl⟩
          have hbq : Below w.heap.size w wq := below_up hb (below_next hW1 hq) hb.size
          clear e1 e2 e3 hq hW1
          go_wp2
          go_roundw
          case rel => exact ⟨k + 1, by omega, by go_num, allLt_succ HJ.out HA.out, hbq⟩
          case measure => simp [intOf]; omega
      · have hiv' : ivB (fr l k) (tt l k) = false := by simpa using hiv
        have HA := Lib.hid (ascB_false_at hlt (show ascAt l k = false by simp [ascAt, hiv']))
        repeat (go_big_quiet_step ((go_at_call 33; exact quiet_b (ivalid_at hiv' _))))
        refine wpQuiet_nil ?_
        rintro wq ⟨⟨_, hq⟩, rfl⟩
        have hbq : Below w.heap.size w wq := below_up hb (below_next hW1 hq) hb.size
        clear e1 e2 e3 hq hW1
        go_wp2
        go_ret
        exact ⟨ret_bool HA.out, hbq⟩
    · have hkl : k = l.length := by omega
      have HA := Lib.hid (ascB_all (l := l) (fun j h => hj j (by omega)))
      clear hj hkl
      go_wp2
      go_ret
      exact ⟨ret_bool HA.out, hb⟩
set_option maxHeartbeats 1000000 in
theorem lis_any (A : Option Addr) (c : Nat) (l : List Sp) (w : World) (h : SpsR w A l) (hn : l.length ≤ maxLen) :
    Calls Try.prog 53 #[.slice A l.length c] w fun e w' => e = .returned (.bool (ascB l)) ∧ Below w.heap.size w w' := by
  unfold maxLen at hn
  go_enter Try.func53, Try.ntmps53
  go_wp2
  go_loopw [3] (fun i wr => ∃ k : Nat, k ≤ l.length ∧ i = .int .i64 k ∧ (∀ j, j < k → ascAt l j = true) ∧ Below w.heap.size w wr) (fun i _ => l.length - (intOf i).toNat)
  case atStart => exact ⟨0, Nat.zero_le _, rfl, by omega, Below.refl _ _⟩
  case round =>
    obtain ⟨k, hk, rfl, hj, hb⟩ := hrel
    by_cases hlt : k < l.length
    · obtain ⟨b, o, rfl, hc⟩ := h.below hb (by omega)
      have c1 := (hc k hlt).1
      have c2 := (hc k hlt).2
      clear h
      go_wp2_with fail
      refine wp_region_below (by kernel_rfl) (by kernel_rfl) ?_
      intro W hW
      have e1 : ∀ z : Bw W, z.1.cell? ⟨b, o + k * 2, none⟩ = some (.int .i64 (fr l k)) := fun z => z.cell (by rw [hW]; exact c1)
      have e2 : ∀ z : Bw W, z.1.cell? ⟨b, o + k * 2 + 1, none⟩ = some (.int .i64 (tt l k)) := fun z => z.cell (by rw [hW]; exact c2)
      have hW1 : Below wr.heap.size wr W := by rw [hW]; exact Below.refl _ _
      have e3 : ∀ z : Bw W, z.1.cell? ⟨b, o + (k - 1) * 2 + 1, none⟩ = some (.int .i64 (tt l (k-1))) := fun z => z.old hW1 (hc (k-1) (by omega)).2
      clear hW c1 c2 hc
      have HJ := Lib.hid hj
      clear hj
      by_cases hiv : ivB (fr l k) (tt l k) = true
      · by_cases hk0 : 0 < k
        · have hk1 : (0:Int) < (k:Int) := by omega
          repeat (go_big_quiet_step ((go_at_call 24; exact quiet_b (rvalid_at hiv _))))
          refine wpQuiet_nil ?_
          rintro wq ⟨⟨_, hq⟩, rfl⟩
          have hbq : Below w.heap.size w wq := below_up hb (below_next hW1 hq) hb.size
          clear e1 e2 e3 hq hW1
          by_cases hcmp : fr l k < tt l (k - 1)
          · have hA : ascAt l k = false := by simp [ascAt]; omega
            have HA := Lib.hid (ascB_false_at hlt hA)
            clear hA hiv
            go_wp2
            go_ret
            exact ⟨ret_bool HA.out, hbq⟩
          · have hA : ascAt l k = true := by simp [ascAt, hiv]; omega
            have HA := Lib.hid hA
            clear hA hiv
            go_wp2
            go_roundw
            case rel => exact ⟨k + 1, by omega, by go_num, allLt_succ HJ.out HA.out, hbq⟩
            case measure => simp [intOf]; omega
        · have hk1 : ¬ (0:Int) < (k:Int) := by omega
          have hk2 : decide ((0:Int) < (k:Int)) = false := by simp; omega
          have hA : ascAt l k = true := by have : k = 0 := by omega
                                           subst this; simp [ascAt, hiv]
          have HA := Lib.hid hA
          clear hA
          repeat (go_big_quiet_step ((go_at_call 24; exact quiet_b (rvalid_at hiv _))))
          refine wpQuiet_nil ?_
          rintro wq ⟨⟨_, hq⟩, rfl⟩
          have hbq : Below w.heap.size w wq := below_up hb (below_next hW1 hq) hb.size
          clear e1 e2 e3 hq hW1
          go_wp2
          go_roundw
          case rel => exact ⟨k + 1, by omega, by go_num, allLt_succ HJ.out HA.out, hbq⟩
          case measure => simp [intOf]; omega
      · have hiv' : ivB (fr l k) (tt l k) = false := by simpa using hiv
        have HA := Lib.hid (ascB_false_at hlt (show ascAt l k = false by simp [ascAt, hiv']))
        repeat (go_big_quiet_step ((go_at_call 24; exact quiet_b (rvalid_at hiv' _))))
        refine wpQuiet_nil ?_
        rintro wq ⟨⟨_, hq⟩, rfl⟩
        have hbq : Below w.heap.size w wq := below_up hb (below_next hW1 hq) hb.size
        clear e1 e2 e3 hq hW1
        go_wp2
        go_ret
        exact ⟨ret_bool HA.out, hbq⟩
    · have hkl : k = l.length := by omega
      have HA := Lib.hid (ascB_all (l := l) (fun j h => hj j (by omega)))
      clear hj hkl
      go_wp2
      go_ret
      exact ⟨ret_bool HA.out, hb⟩
end Go.Proofs.Ytnieceplfjmocaa
