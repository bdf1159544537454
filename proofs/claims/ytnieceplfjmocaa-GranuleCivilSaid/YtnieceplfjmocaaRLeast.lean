/-
  The reference's repeats and least.
-/
import Derived.Test.YtnieceplfjmocaaLeast
namespace Go.Proofs.Ytnieceplfjmocaa
open Go.RowKit Go.BigFrame

theorem repM_eq {p : Int} {l : List Sp} {m : Nat} (h1 : l.length % m = 0) (h2 : p % ((l.length / m : Nat) : Int) = 0) (h3 : ∀ i, i + m < l.length → eqAt (p / ((l.length / m : Nat) : Int)) l m i = true) : true = repM p l m :=
  (repM_t h1 h2 (fun i hi => h3 i (by omega))).symm

set_option maxHeartbeats 1000000 in
theorem rrep_any (A : Option Addr) (c : Nat) (l : List Sp) (p : Int) (m : Nat) (w : World) (h : SpsR w A l) (hn : l.length ≤ maxLen) (hm1 : 1 ≤ m) (hm2 : m < l.length) (hr : l.length % m = 0) (hp : 1 ≤ p) (hp2 : p ≤ 12622780800) (hbd : BdS l) :
    Calls Try.prog 80 #[.int .i64 p, .slice A l.length c, .int .i64 m] w fun e w' => e = .returned (.bool (repM p l m)) ∧ ∃ q, w' = w.drewN q := by
  unfold maxLen at hn
  obtain ⟨b, o, rfl, hc⟩ := h (by omega)
  clear h
  have HB := Lib.hid hbd
  have HC := Lib.hid hc
  clear hbd hc
  have hq1 : (1 : Int) ≤ (l.length : Int) / (m : Int) := by
    apply Int.le_ediv_of_mul_le <;> omega
  have hq2 : (l.length : Int) / (m : Int) ≤ l.length := Int.ediv_le_self _ (by omega)
  have hcast : ((l.length / m : Nat) : Int) = (l.length : Int) / (m : Int) := by simp
  have hmul : (m : Int) * ((l.length : Int) / (m : Int)) = (l.length : Int) := by
    have := Int.mul_ediv_add_emod (l.length : Int) (m : Int)
    have h2 : (l.length : Int) % (m : Int) = 0 := by omega
    omega
  have hr1 : ((m : Int) * ((l.length : Int) / (m : Int)) != (l.length : Int)) = false := by rw [hmul]; simp
  have hmb : (m : Int) * ((l.length : Int) / (m : Int)) ≤ (l.length : Int) := by omega
  have hmb0 : 0 ≤ (m : Int) * ((l.length : Int) / (m : Int)) := by omega
  have HM := Lib.hid hmul
  clear hmul
  have HR := Lib.hid hr
  clear hr
  by_cases hp1 : p % ((l.length / m : Nat) : Int) = 0
  · have hp3 : (p % ((l.length : Int) / (m : Int)) != 0) = false := by rw [← hcast]; simpa using hp1
    have hd1 : 0 ≤ p / ((l.length : Int) / (m : Int)) := Int.ediv_nonneg (by omega) (by omega)
    have hd2 : p / ((l.length : Int) / (m : Int)) ≤ p := Int.ediv_le_self _ (by omega)
    go_enter Try.func80, Try.ntmps80
    go_wp2
    go_loopw [9] (fun x wr => ∃ i : Nat, i + m ≤ l.length ∧ x = .int .i64 i ∧ (∀ j, j < i → eqAt (p / ((l.length / m : Nat) : Int)) l m j = true) ∧ ∃ q, wr = w.drewN q) (fun x _ => l.length - (intOf x).toNat)
    case atStart => exact ⟨0, by omega, rfl, by omega, 0, rfl⟩
    case round =>
      obtain ⟨i, him, rfl, ht, q1, rfl⟩ := hrel
      have HT := Lib.hid ht
      clear ht
      by_cases hi : i + m < l.length
      · obtain ⟨c1, c2⟩ := HC.out (i + m) hi
        obtain ⟨c3, c4⟩ := HC.out i (by omega)
        obtain ⟨b1, b2, b3, b4⟩ := HB.out i (by omega)
        by_cases he1 : fr l (i + m) = fr l i + p / ((l.length : Int) / (m : Int))
        · by_cases he2 : tt l (i + m) = tt l i + p / ((l.length : Int) / (m : Int))
          · have HE := Lib.hid (show eqAt (p / ((l.length / m : Nat) : Int)) l m i = true by simp [eqAt, hcast, he1, he2])
            have h1 : (fr l (i + m) != fr l i + p / ((l.length : Int) / (m : Int))) = false := by simp [he1]
            have h2 : (tt l (i + m) != tt l i + p / ((l.length : Int) / (m : Int))) = false := by simp [he2]
            clear he1 he2
            go_wp2
            go_quiet (fail)
            go_wp2
            go_roundw
            case rel => exact ⟨i + 1, by omega, by go_num, allLt_succ HT.out HE.out, _, rfl⟩
            case measure => simp [intOf]; omega
          · have HE := Lib.hid (repM_f3 hi (show eqAt (p / ((l.length / m : Nat) : Int)) l m i = false by simp [eqAt, hcast, he1, he2]))
            have h1 : (fr l (i + m) != fr l i + p / ((l.length : Int) / (m : Int))) = false := by simp [he1]
            have h2 : (tt l (i + m) != tt l i + p / ((l.length : Int) / (m : Int))) = true := by simp [he2]
            clear he1 he2
            go_wp2
            go_quiet (fail)
            go_wp2
            go_ret
            exact ⟨ret_bool HE.out.symm, _, (by first | rfl | exact World.drewN_drewN _ _ _)⟩
        · have HE := Lib.hid (repM_f3 hi (show eqAt (p / ((l.length / m : Nat) : Int)) l m i = false by simp [eqAt, hcast, he1]))
          have h1 : (fr l (i + m) != fr l i + p / ((l.length : Int) / (m : Int))) = true := by simp [he1]
          clear he1
          go_wp2
          go_quiet (fail)
          go_wp2
          go_ret
          exact ⟨ret_bool HE.out.symm, _, (by first | rfl | exact World.drewN_drewN _ _ _)⟩
      · have HE := Lib.hid (repM_eq HR.out hp1 (fun j hj => HT.out j (by omega)))
        go_wp2
        go_ret
        exact ⟨ret_bool HE.out, _, rfl⟩
  · have hp3 : (p % ((l.length : Int) / (m : Int)) != 0) = true := by rw [← hcast]; simpa using hp1
    have HE := Lib.hid (repM_f2 hp1)
    go_enter Try.func80, Try.ntmps80
    go_wp2
    go_ret
    exact ⟨ret_bool HE.out.symm, 0, rfl⟩

theorem rrep_at {A : Option Addr} {c : Nat} {l : List Sp} {p : Int} {m : Nat} {v : Bool} (w : World) (h : SpsR w A l) (hn : l.length ≤ maxLen) (hm1 : 1 ≤ m) (hm2 : m < l.length) (hr : l.length % m = 0) (hp : 1 ≤ p) (hp2 : p ≤ 12622780800) (hbd : BdS l) (hv : repM p l m = v) :
    Calls Try.prog 80 #[.int .i64 p, .slice A l.length c, .int .i64 m] w fun e w' => e = .returned (.bool v) ∧ ∃ q, w' = w.drewN q :=
  hv ▸ rrep_any A c l p m w h hn hm1 hm2 hr hp hp2 hbd

theorem SpsR.drewN {w : World} {A : Option Addr} {l : List Sp} (h : SpsR w A l) (q : Nat) : SpsR (w.drewN q) A l := h

set_option maxHeartbeats 1000000 in
theorem rleast_any (A : Option Addr) (c : Nat) (l : List Sp) (p : Int) (w : World) (h : SpsR w A l) (hn : l.length ≤ maxLen) (h0 : 0 < l.length) (hp : 1 ≤ p) (hp2 : p ≤ 12622780800) (hbd : BdS l) :
    Calls Try.prog 54 #[.int .i64 p, .slice A l.length c] w fun e w' => e = .returned (.int .i64 (leastN p l)) ∧ ∃ q, w' = w.drewN q := by
  have hn' := hn
  unfold maxLen at hn
  have H := Lib.hid h
  have HB := Lib.hid hbd
  have HN := Lib.hid hn'
  clear h hbd hn'
  go_enter Try.func54, Try.ntmps54
  go_wp2
  go_loopw [5] (fun x wr => ∃ m : Nat, 1 ≤ m ∧ m ≤ l.length ∧ x = .int .i64 m ∧ (∀ j, j < m → 1 ≤ j → repM p l j = false) ∧ ∃ q, wr = w.drewN q) (fun x _ => l.length - (intOf x).toNat)
  case atStart => exact ⟨1, by omega, by omega, rfl, by omega, 0, rfl⟩
  case round =>
    obtain ⟨m, hm1, hm2, rfl, hj, q, rfl⟩ := hrel
    have HJ := Lib.hid hj
    clear hj
    by_cases hlt : m < l.length
    · by_cases hr : l.length % m = 0
      · have hr1 : ((l.length : Int) % (m : Int) == 0) = true := by simp; omega
        have HR := Lib.hid hr
        clear hr
        by_cases hrep : repM p l m = true
        · have HL := Lib.hid (leastN_at hm1 hm2 hrep HJ.out)
          have HP := Lib.hid hrep
          clear hrep
          go_wp2_with (go_at_call 80; refine (rrep_at _ (H.out.drewN _) HN.out hm1 hlt HR.out hp hp2 HB.out HP.out).mono ?_; rintro e w' ⟨rfl, q2, rfl⟩)
          go_ret
          exact ⟨ret_int (by rw [HL.out]), _, rfl⟩
        · have hrep' : repM p l m = false := by simpa using hrep
          have HP := Lib.hid hrep'
          clear hrep hrep'
          go_wp2_with (go_at_call 80; refine (rrep_at _ (H.out.drewN _) HN.out hm1 hlt HR.out hp hp2 HB.out HP.out).mono ?_; rintro e w' ⟨rfl, q2, rfl⟩)
          go_roundw
          case rel => exact ⟨m + 1, by omega, by omega, by go_num, allLt_succ HJ.out (fun _ => HP.out), _, rfl⟩
          case measure => simp [intOf]; omega
      · have hr1 : ((l.length : Int) % (m : Int) == 0) = false := by simp; omega
        have HR := Lib.hid (repM_f1 (p := p) hr)
        go_wp2
        go_roundw
        case rel => exact ⟨m + 1, by omega, by omega, by go_num, allLt_succ HJ.out (fun _ => HR.out), _, rfl⟩
        case measure => simp [intOf]; omega
    · have hme : m = l.length := by omega
      have HR := Lib.hid (leastN_at hm1 hm2 (by rw [hme]; exact repM_self h0) HJ.out)
      have HM := Lib.hid hme
      clear hme
      go_wp2
      go_ret
      exact ⟨ret_int (by rw [HR.out, HM.out]), _, rfl⟩
end Go.Proofs.Ytnieceplfjmocaa
