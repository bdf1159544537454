/-
  slices.Equal of spans, and granule.Equal.
-/
import Derived.Test.YtnieceplfjmocaaSpan
import Derived.Test.YtnieceplfjmocaaEql
import Derived.Test.YtnieceplfjmocaaKeep
namespace Go.Proofs.Ytnieceplfjmocaa
open Go.RowKit Go.BigFrame

attribute [local go_sem ↓] eql_span neq_span

theorem sp_beq (a b : Sp) : (a.1 == b.1 && a.2 == b.2) = decide (a = b) := by
  rw [Bool.eq_iff_iff]
  simp only [Bool.and_eq_true, beq_iff_eq, decide_eq_true_eq]
  exact ⟨fun h => Prod.ext h.1 h.2, fun h => by rw [h]; exact ⟨rfl, rfl⟩⟩
theorem lists_ne {l l' : List Sp} {k : Nat} (_h : k < l.length) (h' : k < l'.length) (hne : (fr l k == fr l' k && tt l k == tt l' k) = false) : decide (l = l') = false := by
  apply decide_eq_false
  intro e
  subst e
  simp at hne
theorem lists_eq {l l' : List Sp} (h : l.length = l'.length) (he : ∀ k, k < l.length → (fr l k == fr l' k && tt l k == tt l' k) = true) : decide (l = l') = true := by
  apply decide_eq_true
  refine List.ext_getElem h (fun k h1 h2 => ?_)
  have := he k h1
  simp only [Bool.and_eq_true, beq_iff_eq, fr, tt, List.getD_eq_getElem?_getD, List.getElem?_eq_getElem h1, List.getElem?_eq_getElem h2, Option.getD_some] at this
  exact Prod.ext this.1 this.2

set_option maxHeartbeats 2000000 in
theorem sequal_any (A A' : Option Addr) (c c' : Nat) (l l' : List Sp) (w : World) (h : SpsR w A l) (h' : SpsR w A' l') (hn : l.length ≤ maxLen) (hn' : l'.length ≤ maxLen) :
    Calls Try.prog 16 #[.slice A l.length c, .slice A' l'.length c'] w fun e w' => e = .returned (.bool (decide (l = l'))) ∧ Below w.heap.size w w' := by
  unfold maxLen at hn hn'
  by_cases hl : l.length = l'.length
  · have n1 : ((l.length : Int) != (l'.length : Int)) = false := by simp; omega
    have HS := Lib.hid h
    have HS' := Lib.hid h'
    clear h h'
    go_enter Try.func16, Try.ntmps16
    go_wp2
    go_loopw [13] (fun x wr => ∃ k : Nat, k ≤ l.length ∧ x = .int .i64 k ∧ (∀ j, j < k → (fr l j == fr l' j && tt l j == tt l' j) = true) ∧ ∃ q, wr = w.drewN q) (fun x _ => l.length - (intOf x).toNat)
    case atStart => exact ⟨0, by omega, rfl, fun j hj => absurd hj (by omega), 0, rfl⟩
    case round =>
      obtain ⟨k, hk, rfl, hall, q, rfl⟩ := hrel
      have HA := Lib.hid hall
      clear hall
      by_cases hlt : k < l.length
      · obtain ⟨b, o1, rfl, hc⟩ := HS.out (by omega)
        obtain ⟨b', o2, rfl, hc'⟩ := HS'.out (by omega)
        obtain ⟨c1, c2⟩ := hc k hlt
        obtain ⟨c3, c4⟩ := hc' k (by omega)
        cases he : (fr l k == fr l' k && tt l k == tt l' k) with
        | true =>
          have HE := Lib.hid he
          have e1 : (!(fr l k == fr l' k && tt l k == tt l' k)) = false := by rw [he]; rfl
          clear hc hc' he
          go_wp2
          go_quiet (fail)
          go_wp2
          go_roundw
          case rel => exact ⟨k + 1, by omega, by go_num, allLt_succ HA.out HE.out, _, rfl⟩
          case measure => simp [intOf]; omega
        | false =>
          have HE := Lib.hid (lists_ne hlt (by omega) he)
          have e1 : (!(fr l k == fr l' k && tt l k == tt l' k)) = true := by rw [he]; rfl
          clear hc hc' he
          go_wp2
          go_quiet (fail)
          go_wp2
          go_ret
          exact ⟨ret_bool HE.out.symm, below_drewN (below_drewN (Below.refl _ _) _) _⟩
      · have hke : k = l.length := by omega
        subst hke
        have HE := Lib.hid (lists_eq hl HA.out)
        go_wp2
        go_ret
        exact ⟨ret_bool HE.out.symm, below_drewN (Below.refl _ _) _⟩
  · have n1 : ((l.length : Int) != (l'.length : Int)) = true := by simp; omega
    have HE : Hid (decide (l = l') = false) := Lib.hid (decide_eq_false (fun e => hl (by rw [e])))
    go_enter Try.func16, Try.ntmps16
    go_wp2
    go_ret
    exact ⟨ret_bool HE.out.symm, Below.refl _ _⟩
theorem sequal_at {A A' : Option Addr} {c c' : Nat} {l l' : List Sp} {v : Bool} (w : World) (h : SpsR w A l) (h' : SpsR w A' l') (hn : l.length ≤ maxLen) (hn' : l'.length ≤ maxLen) (hv : decide (l = l') = v) :
    Calls Try.prog 16 #[.slice A l.length c, .slice A' l'.length c'] w fun e w' => e = .returned (.bool v) ∧ Below w.heap.size w w' := hv ▸ sequal_any A A' c c' l l' w h h' hn hn'

/-- Equal of two calendars -/
def eqC (o p : Int) (l : List Sp) (o' p' : Int) (l' : List Sp) : Bool := validB o p l && (validB o' p' l' && (o == o' && (p == p' && decide (l = l'))))

set_option maxRecDepth 20000 in
set_option maxHeartbeats 4000000 in
theorem gequal_any (o p : Int) (A : Option Addr) (c : Nat) (l : List Sp) (o' p' : Int) (A' : Option Addr) (c' : Nat) (l' : List Sp) (w : World) (h : SpsR w A l) (h' : SpsR w A' l') (hn : l.length ≤ maxLen) (hn' : l'.length ≤ maxLen) :
    Calls Try.prog 15 #[.agg #[.int .i64 o, .int .i64 p, .slice A l.length c], .agg #[.int .i64 o', .int .i64 p', .slice A' l'.length c']] w fun e w' => e = .returned (.bool (eqC o p l o' p' l')) ∧ Below w.heap.size w w' := by
  have HN := Lib.hid hn
  have HN' := Lib.hid hn'
  have hW := ((Below.refl w.heap.size w).alloc (Nat.le_refl _) (.cells #[.int .i64 o, .int .i64 p, .slice A l.length c] 24)).alloc (by simp) (.cells #[.int .i64 o', .int .i64 p', .slice A' l'.length c'] 24)
  have K0 := Lib.hid ((Kp.sps (h.below hW)).and ((Kp.sps (h'.below hW)).and ((Kp.blk (Blk.new (w.alloc (.cells #[.int .i64 o, .int .i64 p, .slice A l.length c] 24)) 24 #[.int .i64 o', .int .i64 p', .slice A' l'.length c'])).and (((Kp.blk (Blk.new w 24 #[.int .i64 o, .int .i64 p, .slice A l.length c])).alloc (.cells #[.int .i64 o', .int .i64 p', .slice A' l'.length c'] 24)).and (Kp.bel hW)))))
  clear h h' hn hn' hW
  have HE : Hid (∀ a b x y z : Bool, validB o p l = a → validB o' p' l' = b → (o == o') = x → (p == p') = y → decide (l = l') = z → eqC o p l o' p' l' = (a && (b && (x && (y && z))))) := Lib.hid (by
    rintro a b x y z rfl rfl rfl rfl rfl; rfl)
  cases hv : validB o p l with
  | false =>
    have HV := Lib.hid hv
    clear hv
    go_enter Try.func15, Try.ntmps15
    go_wp2_with (go_at_call 13; refine (valid_at _ K0.out.now.1 HN.out HV.out).mono ?_; rintro e w1 ⟨rfl, hb1⟩)
    go_ret
    exact ⟨ret_bool (by rw [HE.out _ _ _ _ _ HV.out rfl rfl rfl rfl]; rfl), (K0.out.next hb1).now.2.2.2.2⟩
  | true =>
    have HV := Lib.hid hv
    clear hv
    go_enter Try.func15, Try.ntmps15
    go_wp2_with fail
    refine (valid_at _ K0.out.now.1 HN.out HV.out).mono ?_
    rintro e w1 ⟨rfl, hb1⟩
    have K1 := Lib.hid (K0.out.next hb1)
    clear K0 hb1
    obtain ⟨-, -, hC', hC, -⟩ := K1.out.now
    have g0 := hC.cell 0; have g1 := hC.cell 1; have g2 := hC.cell 2; have g3 := hC'.cell 0; have g4 := hC'.cell 1; have g5 := hC'.cell 2; simp at g0 g1 g2 g3 g4 g5
    clear hC hC'
    cases hv' : validB o' p' l' with
    | false =>
      have HV' := Lib.hid hv'
      clear hv'
      go_wp2_with (go_at_call 13; refine (valid_at _ K1.out.now.2.1 HN'.out HV'.out).mono ?_; rintro e w2 ⟨rfl, hb2⟩)
      go_ret
      exact ⟨ret_bool (by rw [HE.out _ _ _ _ _ HV.out HV'.out rfl rfl rfl]; rfl), (K1.out.next hb2).now.2.2.2.2⟩
    | true =>
      have HV' := Lib.hid hv'
      clear hv'
      go_wp2_with fail
      refine (valid_at _ K1.out.now.2.1 HN'.out HV'.out).mono ?_
      rintro e w2 ⟨rfl, hb2⟩
      have K2 := Lib.hid (K1.out.next hb2)
      clear K1 hb2 g0 g1 g2 g3 g4 g5
      obtain ⟨-, -, hC', hC, -⟩ := K2.out.now
      have g0 := hC.cell 0; have g1 := hC.cell 1; have g2 := hC.cell 2; have g3 := hC'.cell 0; have g4 := hC'.cell 1; have g5 := hC'.cell 2; simp at g0 g1 g2 g3 g4 g5
      clear hC hC'
      cases ho : (o == o') with
      | false =>
        have HO := Lib.hid ho
        go_wp2
        go_ret
        exact ⟨ret_bool (by rw [HE.out _ _ _ _ _ HV.out HV'.out HO.out rfl rfl]; rfl), K2.out.now.2.2.2.2⟩
      | true =>
        cases hp : (p == p') with
        | false =>
          have HO := Lib.hid ho
          have HP := Lib.hid hp
          go_wp2
          go_ret
          exact ⟨ret_bool (by rw [HE.out _ _ _ _ _ HV.out HV'.out HO.out HP.out rfl]; rfl), K2.out.now.2.2.2.2⟩
        | true =>
          have HO := Lib.hid ho
          have HP := Lib.hid hp
          obtain ⟨z, hz⟩ : ∃ z, decide (l = l') = z := ⟨_, rfl⟩
          have HZ := Lib.hid hz
          clear hz
          go_wp2_with fail
          refine (sequal_at _ K2.out.now.1 K2.out.now.2.1 HN.out HN'.out HZ.out).mono ?_
          rintro e w3 ⟨rfl, hb3⟩
          go_wp2
          go_ret
          exact ⟨ret_bool (by rw [HE.out _ _ _ _ _ HV.out HV'.out HO.out HP.out HZ.out]; cases z <;> rfl), (K2.out.next hb3).now.2.2.2.2⟩
theorem gequal_at {o p : Int} {A : Option Addr} {c : Nat} {l : List Sp} {o' p' : Int} {A' : Option Addr} {c' : Nat} {l' : List Sp} {v : Bool} (w : World) (h : SpsR w A l) (h' : SpsR w A' l') (hn : l.length ≤ maxLen) (hn' : l'.length ≤ maxLen) (hv : eqC o p l o' p' l' = v) :
    Calls Try.prog 15 #[.agg #[.int .i64 o, .int .i64 p, .slice A l.length c], .agg #[.int .i64 o', .int .i64 p', .slice A' l'.length c']] w fun e w' => e = .returned (.bool v) ∧ Below w.heap.size w w' := hv ▸ gequal_any o p A c l o' p' A' c' l' w h h' hn hn'
end Go.Proofs.Ytnieceplfjmocaa
