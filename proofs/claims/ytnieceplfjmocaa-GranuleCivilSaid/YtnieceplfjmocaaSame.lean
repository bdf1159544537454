/-
  The reference's Same of two calendars with the same fields; Gapless, the program's and the reference's.
-/
import Derived.Test.YtnieceplfjmocaaSpan
import Derived.Test.YtnieceplfjmocaaEql
namespace Go.Proofs.Ytnieceplfjmocaa
open Go.RowKit Go.BigFrame

attribute [local go_sem ↓] eql_span neq_span

set_option maxHeartbeats 2000000 in
theorem same_eq (o p : Int) (A A' : Option Addr) (c c' : Nat) (l : List Sp) (w : World) (h : SpsR w A l) (h' : SpsR w A' l) (hn : l.length ≤ maxLen) :
    Calls Try.prog 19 #[.agg #[.int .i64 o, .int .i64 p, .slice A l.length c], .agg #[.int .i64 o, .int .i64 p, .slice A' l.length c']] w fun e w' => e = .returned (.bool true) ∧ Below w.heap.size w w' := by
  unfold maxLen at hn
  have hW := ((Below.refl w.heap.size w).alloc (Nat.le_refl _) (.cells #[.int .i64 o, .int .i64 p, .slice A l.length c] 24)).alloc (by simp) (.cells #[.int .i64 o, .int .i64 p, .slice A' l.length c'] 24)
  have HS := Lib.hid (h.below hW)
  have HS' := Lib.hid (h'.below hW)
  have HW := Lib.hid hW
  have n1 : (o != o) = false := by simp
  have n2 : (p != p) = false := by simp
  have n3 : ((l.length : Int) != (l.length : Int)) = false := by simp
  clear h h' hW
  go_enter Try.func19, Try.ntmps19
  go_wp2
  go_loopw [5] (fun x wr => ∃ k : Nat, k ≤ l.length ∧ x = .int .i64 k ∧ ∃ q, wr = ((w.alloc (.cells #[.int .i64 o, .int .i64 p, .slice A l.length c] 24)).alloc (.cells #[.int .i64 o, .int .i64 p, .slice A' l.length c'] 24)).drewN q) (fun x _ => l.length - (intOf x).toNat)
  case atStart => exact ⟨0, by omega, rfl, 0, rfl⟩
  case round =>
    obtain ⟨k, hk, rfl, q, rfl⟩ := hrel
    by_cases hlt : k < l.length
    · obtain ⟨b, o1, rfl, hc⟩ := HS.out (by omega)
      obtain ⟨b', o2, rfl, hc'⟩ := HS'.out (by omega)
      obtain ⟨c1, c2⟩ := hc k hlt
      obtain ⟨c3, c4⟩ := hc' k hlt
      have e1 : (!(fr l k == fr l k && tt l k == tt l k)) = false := by simp
      clear hc hc'
      go_wp2
      go_quiet (fail)
      go_wp2
      go_roundw
      case rel => exact ⟨k + 1, by omega, by go_num, _, rfl⟩
      case measure => simp [intOf]; omega
    · have hke : k = l.length := by omega
      subst hke
      go_wp2
      go_ret
      exact ⟨rfl, below_drewN HW.out _⟩

/-- where the next granule begins, in the list or behind it -/
def nextAt (p : Int) (l : List Sp) (k : Nat) : Int := if k + 1 < l.length then fr l (k + 1) else p
def gapB (o p : Int) (l : List Sp) : Bool := validB o p l && (List.range l.length).all fun k => tt l k == nextAt p l k
theorem gapB_f {o p : Int} {l : List Sp} {k : Nat} (hk : k < l.length) (h : tt l k ≠ nextAt p l k) : gapB o p l = false := by
  simp only [gapB, Bool.and_eq_false_iff]; right
  rw [List.all_eq_false]; exact ⟨k, by simpa using hk, by simpa using h⟩
theorem gapB_t {o p : Int} {l : List Sp} (hv : validB o p l = true) (h : ∀ k, k < l.length → tt l k = nextAt p l k) : gapB o p l = true := by
  simp only [gapB, hv, Bool.true_and]
  rw [List.all_eq_true]; intro k hk; simpa using h k (by simpa using hk)

set_option maxRecDepth 20000 in
set_option maxHeartbeats 4000000 in
theorem gapless_any (o p : Int) (A : Option Addr) (c : Nat) (l : List Sp) (w : World) (h : SpsR w A l) (hn : l.length ≤ maxLen) :
    Calls Try.prog 21 #[.agg #[.int .i64 o, .int .i64 p, .slice A l.length c]] w fun e w' => e = .returned (.bool (gapB o p l)) ∧ Below w.heap.size w w' := by
  have HN := Lib.hid hn
  have hW := (Below.refl w.heap.size w).alloc (Nat.le_refl _) (.cells #[.int .i64 o, .int .i64 p, .slice A l.length c] 24)
  have HS := Lib.hid (h.below hW)
  have HW := Lib.hid hW
  have HB := Lib.hid (Blk.new w 24 #[.int .i64 o, .int .i64 p, .slice A l.length c])
  clear h hW hn
  cases hv : validB o p l with
  | false =>
    have HV := Lib.hid hv
    have HG := Lib.hid (show gapB o p l = false by simp [gapB, hv])
    clear hv
    go_enter Try.func21, Try.ntmps21
    go_wp2_with (go_at_call 13; refine (valid_at _ HS.out HN.out HV.out).mono ?_; rintro e w1 ⟨rfl, hb1⟩)
    go_ret
    exact ⟨ret_bool HG.out.symm, below_next HW.out hb1⟩
  | true =>
    have VD := Vd.of hv
    have hn0 := VD.n0
    have hn5 := VD.n5
    have HV := Lib.hid hv
    clear hv VD
    go_enter Try.func21, Try.ntmps21
    go_wp2_with (go_at_call 13; refine (valid_at _ HS.out HN.out HV.out).mono ?_; rintro e w1 ⟨rfl, hb1⟩; have hB1 := HB.out.below hb1; have g0 := hB1.cell 0; have g1 := hB1.cell 1; have g2 := hB1.cell 2; simp at g0 g1 g2)
    have hS1 := HS.out.below hb1
    have hW1 := below_next HW.out hb1
    have hlt1 := hB1.lt
    have B1 := Lib.hid hB1; have S1 := Lib.hid hS1; have W1 := Lib.hid hW1
    clear hB1 hS1 hW1 hb1 g0 g1 g2
    go_loopw [12] (fun x wr => ∃ k : Nat, k ≤ l.length ∧ x = .int .i64 k ∧ (∀ j, j < k → tt l j = nextAt p l j) ∧ Below w1.heap.size w1 wr) (fun x _ => l.length - (intOf x).toNat)
    case atStart => exact ⟨0, by omega, rfl, by omega, Below.refl _ _⟩
    case round =>
      obtain ⟨k, hk, rfl, hj, hb⟩ := hrel
      have HJ := Lib.hid hj
      have hBr := B1.out.below hb
      have g0 := hBr.cell 0; have g1 := hBr.cell 1; have g2 := hBr.cell 2; simp at g0 g1 g2
      have hlt2 := hBr.lt
      have HB2 := Lib.hid hb
      clear hj hBr
      by_cases hlt : k < l.length
      · obtain ⟨b, o1, rfl, hc⟩ := S1.out.below hb (by omega)
        obtain ⟨c1, c2⟩ := hc k hlt
        have hbl := World.block_lt_of_cell? _ _ c1
        by_cases hk1 : k + 1 < l.length
        · have c3 := (hc (k + 1) hk1).1
          have HX := Lib.hid (show nextAt p l k = fr l (k + 1) by simp [nextAt, hk1])
          clear hc hb
          by_cases hne : tt l k = fr l (k + 1)
          · have HE := Lib.hid (show tt l k = nextAt p l k by rw [HX.out, hne])
            have e1 : (tt l k != fr l (k + 1)) = false := by simpa using hne
            clear hne
            go_wp2
            go_roundw
            case rel => exact ⟨k + 1, by omega, by go_num, allLt_succ HJ.out HE.out, HB2.out.alloc HB2.out.size _⟩
            case measure => simp [intOf]; omega
          · have HE := Lib.hid (gapB_f (o := o) (p := p) hlt (by rw [HX.out]; exact hne))
            have e1 : (tt l k != fr l (k + 1)) = true := by simpa using hne
            clear hne
            go_wp2
            go_ret
            exact ⟨ret_bool HE.out.symm, (below_next W1.out HB2.out).alloc (below_next W1.out HB2.out).size _⟩
        · have HX := Lib.hid (show nextAt p l k = p by simp [nextAt, hk1])
          clear hc hb
          by_cases hne : tt l k = p
          · have HE := Lib.hid (show tt l k = nextAt p l k by rw [HX.out, hne])
            have e1 : (tt l k != p) = false := by simpa using hne
            clear hne
            go_wp2
            go_roundw
            case rel => exact ⟨k + 1, by omega, by go_num, allLt_succ HJ.out HE.out, HB2.out.alloc HB2.out.size _⟩
            case measure => simp [intOf]; omega
          · have HE := Lib.hid (gapB_f (o := o) (p := p) hlt (by rw [HX.out]; exact hne))
            have e1 : (tt l k != p) = true := by simpa using hne
            clear hne
            go_wp2
            go_ret
            exact ⟨ret_bool HE.out.symm, (below_next W1.out HB2.out).alloc (below_next W1.out HB2.out).size _⟩
      · have HE := Lib.hid (gapB_t (l := l) HV.out (fun j hj => HJ.out j (by omega)))
        have hkl : k = l.length := by omega
        subst hkl
        go_wp2
        go_ret
        exact ⟨ret_bool HE.out.symm, below_next W1.out HB2.out⟩
set_option maxRecDepth 20000 in
set_option maxHeartbeats 4000000 in
theorem rgapless_any (o p : Int) (A : Option Addr) (c : Nat) (l : List Sp) (w : World) (h : SpsR w A l) (hn : l.length ≤ maxLen) :
    Calls Try.prog 22 #[.agg #[.int .i64 o, .int .i64 p, .slice A l.length c]] w fun e w' => e = .returned (.bool (gapB o p l)) ∧ Below w.heap.size w w' := by
  have HN := Lib.hid hn
  have hW := (Below.refl w.heap.size w).alloc (Nat.le_refl _) (.cells #[.int .i64 o, .int .i64 p, .slice A l.length c] 24)
  have HS := Lib.hid (h.below hW)
  have HW := Lib.hid hW
  have HB := Lib.hid (Blk.new w 24 #[.int .i64 o, .int .i64 p, .slice A l.length c])
  clear h hW hn
  cases hv : validB o p l with
  | false =>
    have HV := Lib.hid hv
    have HG := Lib.hid (show gapB o p l = false by simp [gapB, hv])
    clear hv
    go_enter Try.func22, Try.ntmps22
    go_wp2_with (go_at_call 20; refine (rvalidC_at _ HS.out HN.out HV.out).mono ?_; rintro e w1 ⟨rfl, hb1⟩)
    go_ret
    exact ⟨ret_bool HG.out.symm, below_next HW.out hb1⟩
  | true =>
    have VD := Vd.of hv
    have hn0 := VD.n0
    have hn5 := VD.n5
    have HV := Lib.hid hv
    clear hv VD
    go_enter Try.func22, Try.ntmps22
    go_wp2_with (go_at_call 20; refine (rvalidC_at _ HS.out HN.out HV.out).mono ?_; rintro e w1 ⟨rfl, hb1⟩; have hB1 := HB.out.below hb1; have g0 := hB1.cell 0; have g1 := hB1.cell 1; have g2 := hB1.cell 2; simp at g0 g1 g2)
    have hS1 := HS.out.below hb1
    have hW1 := below_next HW.out hb1
    have hlt1 := hB1.lt
    have B1 := Lib.hid hB1; have S1 := Lib.hid hS1; have W1 := Lib.hid hW1
    clear hB1 hS1 hW1 hb1 g0 g1 g2
    go_loopw [3] (fun x wr => ∃ k : Nat, k ≤ l.length ∧ x = .int .i64 k ∧ (∀ j, j < k → tt l j = nextAt p l j) ∧ Below w1.heap.size w1 wr) (fun x _ => l.length - (intOf x).toNat)
    case atStart => exact ⟨0, by omega, rfl, by omega, Below.refl _ _⟩
    case round =>
      obtain ⟨k, hk, rfl, hj, hb⟩ := hrel
      have HJ := Lib.hid hj
      have hBr := B1.out.below hb
      have g0 := hBr.cell 0; have g1 := hBr.cell 1; have g2 := hBr.cell 2; simp at g0 g1 g2
      have hlt2 := hBr.lt
      have HB2 := Lib.hid hb
      clear hj hBr
      by_cases hlt : k < l.length
      · obtain ⟨b, o1, rfl, hc⟩ := S1.out.below hb (by omega)
        obtain ⟨c1, c2⟩ := hc k hlt
        have hbl := World.block_lt_of_cell? _ _ c1
        by_cases hk1 : k + 1 < l.length
        · have c3 := (hc (k + 1) hk1).1
          have HX := Lib.hid (show nextAt p l k = fr l (k + 1) by simp [nextAt, hk1])
          clear hc hb
          by_cases hne : tt l k = fr l (k + 1)
          · have HE := Lib.hid (show tt l k = nextAt p l k by rw [HX.out, hne])
            have e1 : (tt l k != fr l (k + 1)) = false := by simpa using hne
            clear hne
            go_wp2
            go_roundw
            case rel => exact ⟨k + 1, by omega, by go_num, allLt_succ HJ.out HE.out, HB2.out⟩
            case measure => simp [intOf]; omega
          · have HE := Lib.hid (gapB_f (o := o) (p := p) hlt (by rw [HX.out]; exact hne))
            have e1 : (tt l k != fr l (k + 1)) = true := by simpa using hne
            clear hne
            go_wp2
            go_ret
            exact ⟨ret_bool HE.out.symm, below_next W1.out HB2.out⟩
        · have HX := Lib.hid (show nextAt p l k = p by simp [nextAt, hk1])
          clear hc hb
          by_cases hne : tt l k = p
          · have HE := Lib.hid (show tt l k = nextAt p l k by rw [HX.out, hne])
            have e1 : (tt l k != p) = false := by simpa using hne
            clear hne
            go_wp2
            go_roundw
            case rel => exact ⟨k + 1, by omega, by go_num, allLt_succ HJ.out HE.out, HB2.out⟩
            case measure => simp [intOf]; omega
          · have HE := Lib.hid (gapB_f (o := o) (p := p) hlt (by rw [HX.out]; exact hne))
            have e1 : (tt l k != p) = true := by simpa using hne
            clear hne
            go_wp2
            go_ret
            exact ⟨ret_bool HE.out.symm, below_next W1.out HB2.out⟩
      · have HE := Lib.hid (gapB_t (l := l) HV.out (fun j hj => HJ.out j (by omega)))
        have hkl : k = l.length := by omega
        subst hkl
        go_wp2
        go_ret
        exact ⟨ret_bool HE.out.symm, below_next W1.out HB2.out⟩
end Go.Proofs.Ytnieceplfjmocaa
