/-
  The walk of GranuleRepeats.
-/
import Derived.Test.YtnieceplfjmocaaAdapt
import Derived.Test.YtnieceplfjmocaaRepLaw
namespace Go.Proofs.Ytnieceplfjmocaa
open Go.RowKit
set_option maxRecDepth 100000
set_option maxHeartbeats 4000000 in
theorem repeats_fn {o p o' p' n : Int} {l l' : List Sp} (hn : 0 ≤ n ∧ n ≤ 255) : Fn Try.prog 3 [calA o p 0, calA o' p' 1, .c (.int .u8 n)] [.arr false .i2 l, .arr false .i2 l'] (fun v c => v = .c (.bool true) ∧ c = []) := by
  refine fn_run tab_holds eqs_holds mixed [(6, [(1, [0, 1, 2, 3, 4])], []), (21, [(1, [0, 1, 3]), (2, [2]), (2, [4]), (1, [5, 6, 7, 8, 9, 10, 11, 12, 13, 14, 15, 16, 17, 18, 19, 20, 21, 22, 23]), (2, [24]), (1, [25, 26])], [])] Try.func3 (by kernel_rfl) (by kernel_rfl) (Nat.le_of_ble_eq_true rfl) ?_
  intro O X hO hX
  cbv
  refine call_go hO hX awake_fn (by kernel_rfl) [] rfl trivial rfl ?_
  rintro _ _ ⟨rfl, rfl⟩
  cbv
  rw [(not_lit hO).1]
  cbv
  split
  · rename_i h1
    cbv
    exact fin_plain hX rfl rfl (by cbv) ⟨rfl, rfl⟩
  rename_i h1
  cbv
  split
  · rename_i h2
    cbv
    exact fin_plain hX rfl rfl (by cbv) ⟨rfl, rfl⟩
  rename_i h2
  cbv
  obtain ⟨v, hv⟩ : ∃ v, validB o p l = v := ⟨_, rfl⟩
  refine call_go hO hX (valid_fn hv) (by kernel_rfl) [0] rfl ⟨rfl, rfl, trivial⟩ rfl ?_
  rintro _ _ ⟨rfl, rfl⟩
  cbv
  cases v
  · rw [(not_lit hO).2]
    cbv
    exact fin_plain hX rfl rfl (by cbv) ⟨rfl, rfl⟩
  rw [(not_lit hO).1]
  cbv
  have hd := Vd.of hv
  have hl60 : l.length ≤ 60 := by have := lt_f hO h1; rw [ofNat_e hO, len_e hO] at this; exact Int.ofNat_le.1 this
  have hl61 : l'.length ≤ 60 := by have := lt_f hO h2; rw [ofNat_e hO, len_e hO] at this; exact Int.ofNat_le.1 this
  have hp0 := hd.p1
  have hp9 := hd.p2
  have hlp := hd.n0
  obtain ⟨m, hm⟩ : ∃ m, O .add 1 (O .rem n 20) = m := ⟨_, rfl⟩
  rw [hm]
  have hm1 : 1 ≤ m ∧ m ≤ 20 := by rw [← hm, add_e hO, rem_e hO, Int.tmod_eq_emod_of_nonneg hn.1]; omega
  have hq : O .quo 12622780800 m = 12622780800 / m := by rw [quo_e hO, Int.tdiv_eq_ediv_of_nonneg (by omega)]
  have hq1 : 0 ≤ 12622780800 / m ∧ 12622780800 / m ≤ 12622780800 := ⟨Int.ediv_nonneg (by omega) (by omega), Int.ediv_le_self _ (by omega)⟩
  refine ⟨inr_mk hO (by omega) (by omega), nz_mk hO (by omega), inr_mk hO (by omega) (by omega), nz_mk hO (by omega), inr_mk hO (by rw [hq]; omega) (by rw [hq]; omega), ?_⟩
  clear hm
  split
  · rename_i h3
    clear h3 hq hq1 hm1
    have hm1 : (1 : Int) ≤ 1 ∧ (1 : Int) ≤ 20 := by omega
    have hp : 1 * p ≤ 12622780800 := by omega
    cbv
    refine loop2 tab_holds eqs_holds mixed [(6, [(1, [0, 1, 2, 3, 4])], []), (21, [(1, [0, 1, 3]), (2, [2]), (2, [4]), (1, [5, 6, 7, 8, 9, 10, 11, 12, 13, 14, 15, 16, 17, 18, 19, 20, 21, 22, 23]), (2, [24]), (1, [25, 26])], [])] hO hX (fun (i : Int) (L : List Sp) => (0 ≤ i ∧ i ≤ (1 : Int)) ∧ L = repK p l (i.toNat * l.length)) (fun i _ => [(46, .c (.int .i64 i)), (8, .c (.sl 4))]) (fun _ L => [(4, .own 28 .i2 L)]) (fun i _ => ((1 : Int) - i).toNat) 0 [] (by kernel_rfl) ⟨by omega, by simp [repK]⟩ (by cbv; simp) ?_
    intro i L hI
    have hi := hI.1; have hL := hI.2
    cbv
    split
    · rename_i h4
      cbv
      refine loop2 tab_holds eqs_holds mixed [(6, [(1, [0, 1, 2, 3, 4])], []), (21, [(1, [0, 1, 3]), (2, [2]), (2, [4]), (1, [5, 6, 7, 8, 9, 10, 11, 12, 13, 14, 15, 16, 17, 18, 19, 20, 21, 22, 23]), (2, [24]), (1, [25, 26])], [])] hO hX (fun (j : Int) (L : List Sp) => (0 ≤ j ∧ j ≤ (l.length : Int)) ∧ L = repK p l (i.toNat * l.length + j.toNat)) (fun j _ => [(52, .c (.int .i64 j)), (8, .c (.sl 4))]) (fun _ L => [(4, .own 28 .i2 L)]) (fun j _ => ((l.length : Int) - j).toNat) 0 L (by kernel_rfl) ⟨by omega, hL⟩ (by cbv) ?_
      intro j L2 hJ
      have hj := hJ.1; have hL2 := hJ.2
      cbv
      split
      · rename_i h5
        have g4 := lt_t hO h4
        have g5 := lt_t hO h5
        rw [ofNat_e hO, len_e hO] at g5
        have q1 : 0 ≤ j ∧ j < (l.length : Int) := by omega
        have q2 : j.toNat < l.length := by omega
        have hb := hd.bd (k := j.toNat) (by omega)
        have hip : 0 ≤ i * p ∧ i * p ≤ (1 : Int) * p := ⟨Int.mul_nonneg hi.1 (by omega), Int.mul_le_mul_of_nonneg_right hi.2 (by omega)⟩
        cbv
        obtain ⟨⟨xa, xb⟩, hx⟩ : ∃ x : Sp, O .get .i2 l (O .toNat j) = x := ⟨_, rfl⟩
        have hy := hx
        rw [get_e hO, toNat_e hO] at hy
        have e1 : xa = fr l j.toNat := (congrArg Prod.fst hy).symm
        have e2 : xb = tt l j.toNat := (congrArg Prod.snd hy).symm
        clear hy
        rw [hx]
        cbv
        refine ⟨idx_mk hO q1, kin_mk hO (by rw [toNat_e hO]; exact q2), inr_mk hO (by rw [mul_e hO]; omega) (by rw [mul_e hO]; omega), inr_mk hO (by rw [add_e hO, mul_e hO]; omega) (by rw [add_e hO, mul_e hO]; omega), inr_mk hO (by rw [mul_e hO]; omega) (by rw [mul_e hO]; omega), inr_mk hO (by rw [add_e hO, mul_e hO]; omega) (by rw [add_e hO, mul_e hO]; omega), room_mk hO ?_, room_mk hO (by simp), inr_mk hO (by rw [add_e hO]; omega) (by rw [add_e hO]; omega), O .add j 1, O .app .i2 L2 [(O .add xa (O .mul i p), O .add xb (O .mul i p))], [0, 1, 2, 3, 7], ⟨by rw [add_e hO]; omega, ?_⟩, by cbv; try simp, ?_⟩
        · rw [hL2, repK_len]
          have : i.toNat * l.length ≤ 20 * l.length := Nat.mul_le_mul_right _ (by omega)
          omega
        · rw [app_e hO, hL2, e1, e2, add_e hO, add_e hO, add_e hO, mul_e hO, show (j + 1).toNat = j.toNat + 1 by omega]
          have := repK_next p (l := l) (i := i.toNat) (j := j.toNat) (by omega)
          rw [show ((i.toNat : Nat) : Int) = i by omega] at this
          rw [← Nat.add_assoc, this]
        · rw [add_e hO]; omega
      · rename_i h5
        have g4 := lt_t hO h4
        have g5 := lt_f hO h5
        rw [ofNat_e hO, len_e hO] at g5
        have q5 : j.toNat = l.length := by have h6 : j ≤ (l.length : Int) := hj.2; have : (l.length : Int) ≤ j := g5; omega
        cbv
        refine ⟨inr_mk hO (by rw [add_e hO]; omega) (by rw [add_e hO]; omega), O .add i 1, L2, [0, 1, 2, 3, 4], ⟨by rw [add_e hO]; omega, ?_⟩, by cbv; try simp, ?_⟩
        · rw [hL2, add_e hO, show (i + 1).toNat = i.toNat + 1 by omega, Nat.succ_mul, q5]
        · rw [add_e hO]; omega
    · rename_i h4
      have g4 := lt_f hO h4
      cbv
      have hmp : 1 * p ≤ (1 : Int) * p := Int.mul_le_mul_of_nonneg_right hm1.1 (by omega)
      refine ⟨inr_mk hO (by rw [mul_e hO]; omega) (by rw [mul_e hO]; omega), ?_⟩
      refine call_go hO hX (of_fn (o := o) (p := O .mul (1 : Int) p) (l := L) (O := o) (P := p) (E := 0) (L := l) ?_) (by kernel_rfl) [4] rfl ⟨rfl, rfl, trivial⟩ rfl ?_
      · have := rep_of hv (m := (1 : Int).toNat) (by omega) (Nat.le_trans (Nat.mul_le_mul_right _ (show (1 : Int).toNat ≤ 20 by omega)) (by omega)) (by rw [show (((1 : Int).toNat : Nat) : Int) = (1 : Int) by omega]; exact hp)
        rw [mul_e hO, hL, show i = (1 : Int) by omega]
        rw [show (((1 : Int).toNat : Nat) : Int) = (1 : Int) by omega] at this
        exact this
      rintro _ _ ⟨rfl, rfl⟩
      cbv
      rw [show O .not (O .eq 0 0) = false by subst hO; rfl]
      cbv
      refine call_go hO hX (equal_fn (v := true) ?_) (by kernel_rfl) [5, 0] rfl ⟨rfl, rfl, rfl, rfl, trivial⟩ rfl ?_
      · simp [eqC, hv]
      rintro _ _ ⟨rfl, rfl⟩
      cbv
      rw [(not_lit hO).1]
      cbv
      refine call_go hO hX (equal_fn (v := true) ?_) (by kernel_rfl) [0, 0] rfl ⟨rfl, rfl, rfl, rfl, trivial⟩ rfl ?_
      · simp [eqC, hv]
      rintro _ _ ⟨rfl, rfl⟩
      cbv
      rw [(not_lit hO).1]
      cbv
      obtain ⟨w, hw⟩ : ∃ w, validB o' p' l' = w := ⟨_, rfl⟩
      obtain ⟨e, he⟩ : ∃ e, eqC o p l o' p' l' = e := ⟨_, rfl⟩
      refine call_go hO hX (equal_fn he) (by kernel_rfl) [0, 1] rfl ⟨rfl, rfl, rfl, rfl, trivial⟩ rfl ?_
      rintro _ _ ⟨rfl, rfl⟩
      cbv
      refine call_go hO hX (valid_fn hw) (by kernel_rfl) [1] rfl ⟨rfl, rfl, trivial⟩ rfl ?_
      rintro _ _ ⟨rfl, rfl⟩
      cbv
      cases w
      · have : e = false := by rw [← he, eqC, hw]; simp
        subst this
        cbv
        rw [show O .not (O .beq false false) = false by subst hO; rfl]
        cbv
        refine call_go hO hX (valid_fn hw) (by kernel_rfl) [1] rfl ⟨rfl, rfl, trivial⟩ rfl ?_
        rintro _ _ ⟨rfl, rfl⟩
        cbv
        rw [(not_lit hO).2]
        cbv
        exact fin_plain hX rfl rfl (by cbv) ⟨rfl, rfl⟩
      cbv
      split
      · rename_i k1
        cbv
        split
        · rename_i k2
          cbv
          obtain ⟨u, hu⟩ : ∃ u, decide (l = l') = u := ⟨_, rfl⟩
          refine call_go hO hX (sequal_fn hu) (by kernel_rfl) [0, 1] rfl ⟨rfl, rfl, rfl, rfl, trivial⟩ rfl ?_
          rintro _ _ ⟨rfl, rfl⟩
          cbv
          have : e = u := by rw [← he, eqC, hv, hw, eq_t hO k1, eq_t hO k2, hu]; simp
          subst this
          rw [show O .not (O .beq e e) = false by subst hO; simp [std]]
          cbv
          refine call_go hO hX (valid_fn hw) (by kernel_rfl) [1] rfl ⟨rfl, rfl, trivial⟩ rfl ?_
          rintro _ _ ⟨rfl, rfl⟩
          cbv
          rw [(not_lit hO).1]
          cbv
          refine call_go hO hX (equal_fn he) (by kernel_rfl) [0, 1] rfl ⟨rfl, rfl, rfl, rfl, trivial⟩ rfl ?_
          rintro _ _ ⟨rfl, rfl⟩
          cbv
          cases e
          · cbv
            have nm : l.length * l'.length ≤ 60 * 60 := Nat.mul_le_mul hl60 hl61
            have mu : O .mul (O .ofNat (O .len .i2 l)) (O .ofNat (O .len .i2 l')) = ((l.length * l'.length : Nat) : Int) := by rw [mul_e hO, ofNat_e hO, ofNat_e hO, len_e hO, len_e hO, ← Int.natCast_mul]
            obtain ⟨W, hW⟩ : ∃ W, l.length * l'.length = W := ⟨_, rfl⟩
            rw [hW] at nm mu
            obtain ⟨z, hz⟩ : ∃ z : Int, (W : Int) = z := ⟨_, rfl⟩
            rw [hz] at mu
            have hz2 : z.toNat = W ∧ 0 ≤ z := by omega
            clear hz
            rw [mu]
            refine ⟨inr_mk hO (by omega) (by omega), inr_mk hO (by rw [add_e hO]; omega) (by rw [add_e hO]; omega), ?_⟩
            refine loop1 tab_holds eqs_holds mixed [(6, [(1, [0, 1, 2, 3, 4])], []), (21, [(1, [0, 1, 3]), (2, [2]), (2, [4]), (1, [5, 6, 7, 8, 9, 10, 11, 12, 13, 14, 15, 16, 17, 18, 19, 20, 21, 22, 23]), (2, [24]), (1, [25, 26])], [])] hO hX (fun (k : Int) => (0 ≤ k ∧ k.toNat ≤ W + 1) ∧ ∀ j : Nat, j < k.toNat → atF o p l j = atF o' p' l' j ∧ atT o p l j = atT o' p' l' j) (fun k => [(144, .c (.int .i64 k))]) (fun _ => []) (fun k => W + 1 - k.toNat) 0 (by kernel_rfl) ⟨by omega, fun j h => absurd h (by simp)⟩ (by cbv; try simp) ?_
            intro k hK
            have hk := hK.1; have hkk := hK.2
            cbv
            split
            · rename_i c1
              have c2 : k < z + 1 := by have h7 := lt_t hO c1; rw [add_e hO] at h7; exact h7
              cbv
              obtain ⟨a, ha⟩ : ∃ a, spanF o p l k = a := ⟨_, rfl⟩
              obtain ⟨b, hb⟩ : ∃ b, spanT o p l k = b := ⟨_, rfl⟩
              obtain ⟨E, hE⟩ : ∃ E, spanE o p l k = E := ⟨_, rfl⟩
              refine call_go hO hX (span_fn (by omega) (by omega) ⟨ha, hb, hE⟩) (by kernel_rfl) [0] rfl ⟨rfl, rfl, trivial⟩ rfl ?_
              rintro _ _ ⟨rfl, rfl⟩
              cbv
              obtain ⟨a', ha'⟩ : ∃ a, spanF o' p' l' k = a := ⟨_, rfl⟩
              obtain ⟨b', hb'⟩ : ∃ b, spanT o' p' l' k = b := ⟨_, rfl⟩
              obtain ⟨E', hE'⟩ : ∃ E, spanE o' p' l' k = E := ⟨_, rfl⟩
              refine call_go hO hX (span_fn (by omega) (by omega) ⟨ha', hb', hE'⟩) (by kernel_rfl) [1] rfl ⟨rfl, rfl, trivial⟩ rfl ?_
              rintro _ _ ⟨rfl, rfl⟩
              cbv
              split
              · rename_i d1
                cbv
                exact fin_plain hX rfl rfl (by cbv) ⟨rfl, rfl⟩
              rename_i d1
              have d2 := ne_f hO d1
              cbv
              split
              · rename_i d3
                cbv
                exact fin_plain hX rfl rfl (by cbv) ⟨rfl, rfl⟩
              rename_i d3
              have d4 : a = a' ∧ b = b' := by subst hO; simpa [std] using d3
              cbv
              split
              · rename_i d5
                cbv
                exact fin_plain hX rfl rfl (by cbv) ⟨rfl, rfl⟩
              rename_i d5
              have d6 := ne_f hO d5
              have s1 := spanE_zero (hE.trans d6)
              have s2 := spanE_zero (hE'.trans (d2.symm.trans d6))
              have s3 : atF o p l k = atF o' p' l' k ∧ atT o p l k = atT o' p' l' k := by
                rw [← s1.2.2.2.1, ← s1.2.2.2.2, ← s2.2.2.2.1, ← s2.2.2.2.2, ha, hb, ha', hb']; exact d4
              clear s1 s2
              cbv
              refine ⟨inr_mk hO (by rw [add_e hO]; omega) (by rw [add_e hO]; omega), O .add k 1, [0, 1, 2, 3, 4, 5, 6], ⟨by rw [add_e hO]; omega, fun j hj => ?_⟩, by cbv; try simp, by rw [add_e hO]; omega⟩
              rw [add_e hO] at hj
              by_cases hjk : j < k.toNat
              · exact hkk j hjk
              · have e : k = (j : Int) := by omega
                rw [e] at s3
                exact s3
            · rename_i c1
              have c2 : z + 1 ≤ k := by have h7 := lt_f hO c1; rw [add_e hO] at h7; exact h7
              exfalso
              obtain ⟨a1, a2, a3⟩ := same_cal hd (Vd.of hw) (fun j hj => hkk j (by rw [hW] at hj; omega))
              simp [eqC, hv, hw, a1, a2, a3] at he
          · cbv
            exact fin_plain hX rfl rfl (by cbv) ⟨rfl, rfl⟩
        · rename_i k2
          cbv
          have : e = false := by
            have := eq_f hO k2
            rw [← he]; simp [eqC, this]
          subst this
          rw [show O .not (O .beq false false) = false by subst hO; rfl]
          cbv
          refine call_go hO hX (valid_fn hw) (by kernel_rfl) [1] rfl ⟨rfl, rfl, trivial⟩ rfl ?_
          rintro _ _ ⟨rfl, rfl⟩
          cbv
          rw [(not_lit hO).1]
          cbv
          refine call_go hO hX (equal_fn he) (by kernel_rfl) [0, 1] rfl ⟨rfl, rfl, rfl, rfl, trivial⟩ rfl ?_
          rintro _ _ ⟨rfl, rfl⟩
          cbv
          have nm : l.length * l'.length ≤ 60 * 60 := Nat.mul_le_mul hl60 hl61
          have mu : O .mul (O .ofNat (O .len .i2 l)) (O .ofNat (O .len .i2 l')) = ((l.length * l'.length : Nat) : Int) := by rw [mul_e hO, ofNat_e hO, ofNat_e hO, len_e hO, len_e hO, ← Int.natCast_mul]
          obtain ⟨W, hW⟩ : ∃ W, l.length * l'.length = W := ⟨_, rfl⟩
          rw [hW] at nm mu
          obtain ⟨z, hz⟩ : ∃ z : Int, (W : Int) = z := ⟨_, rfl⟩
          rw [hz] at mu
          have hz2 : z.toNat = W ∧ 0 ≤ z := by omega
          clear hz
          rw [mu]
          refine ⟨inr_mk hO (by omega) (by omega), inr_mk hO (by rw [add_e hO]; omega) (by rw [add_e hO]; omega), ?_⟩
          refine loop1 tab_holds eqs_holds mixed [(6, [(1, [0, 1, 2, 3, 4])], []), (21, [(1, [0, 1, 3]), (2, [2]), (2, [4]), (1, [5, 6, 7, 8, 9, 10, 11, 12, 13, 14, 15, 16, 17, 18, 19, 20, 21, 22, 23]), (2, [24]), (1, [25, 26])], [])] hO hX (fun (k : Int) => (0 ≤ k ∧ k.toNat ≤ W + 1) ∧ ∀ j : Nat, j < k.toNat → atF o p l j = atF o' p' l' j ∧ atT o p l j = atT o' p' l' j) (fun k => [(144, .c (.int .i64 k))]) (fun _ => []) (fun k => W + 1 - k.toNat) 0 (by kernel_rfl) ⟨by omega, fun j h => absurd h (by simp)⟩ (by cbv; try simp) ?_
          intro k hK
          have hk := hK.1; have hkk := hK.2
          cbv
          split
          · rename_i c1
            have c2 : k < z + 1 := by have h7 := lt_t hO c1; rw [add_e hO] at h7; exact h7
            cbv
            obtain ⟨a, ha⟩ : ∃ a, spanF o p l k = a := ⟨_, rfl⟩
            obtain ⟨b, hb⟩ : ∃ b, spanT o p l k = b := ⟨_, rfl⟩
            obtain ⟨E, hE⟩ : ∃ E, spanE o p l k = E := ⟨_, rfl⟩
            refine call_go hO hX (span_fn (by omega) (by omega) ⟨ha, hb, hE⟩) (by kernel_rfl) [0] rfl ⟨rfl, rfl, trivial⟩ rfl ?_
            rintro _ _ ⟨rfl, rfl⟩
            cbv
            obtain ⟨a', ha'⟩ : ∃ a, spanF o' p' l' k = a := ⟨_, rfl⟩
            obtain ⟨b', hb'⟩ : ∃ b, spanT o' p' l' k = b := ⟨_, rfl⟩
            obtain ⟨E', hE'⟩ : ∃ E, spanE o' p' l' k = E := ⟨_, rfl⟩
            refine call_go hO hX (span_fn (by omega) (by omega) ⟨ha', hb', hE'⟩) (by kernel_rfl) [1] rfl ⟨rfl, rfl, trivial⟩ rfl ?_
            rintro _ _ ⟨rfl, rfl⟩
            cbv
            split
            · rename_i d1
              cbv
              exact fin_plain hX rfl rfl (by cbv) ⟨rfl, rfl⟩
            rename_i d1
            have d2 := ne_f hO d1
            cbv
            split
            · rename_i d3
              cbv
              exact fin_plain hX rfl rfl (by cbv) ⟨rfl, rfl⟩
            rename_i d3
            have d4 : a = a' ∧ b = b' := by subst hO; simpa [std] using d3
            cbv
            split
            · rename_i d5
              cbv
              exact fin_plain hX rfl rfl (by cbv) ⟨rfl, rfl⟩
            rename_i d5
            have d6 := ne_f hO d5
            have s1 := spanE_zero (hE.trans d6)
            have s2 := spanE_zero (hE'.trans (d2.symm.trans d6))
            have s3 : atF o p l k = atF o' p' l' k ∧ atT o p l k = atT o' p' l' k := by
              rw [← s1.2.2.2.1, ← s1.2.2.2.2, ← s2.2.2.2.1, ← s2.2.2.2.2, ha, hb, ha', hb']; exact d4
            clear s1 s2
            cbv
            refine ⟨inr_mk hO (by rw [add_e hO]; omega) (by rw [add_e hO]; omega), O .add k 1, [0, 1, 2, 3, 4, 5, 6], ⟨by rw [add_e hO]; omega, fun j hj => ?_⟩, by cbv; try simp, by rw [add_e hO]; omega⟩
            rw [add_e hO] at hj
            by_cases hjk : j < k.toNat
            · exact hkk j hjk
            · have e : k = (j : Int) := by omega
              rw [e] at s3
              exact s3
          · rename_i c1
            have c2 : z + 1 ≤ k := by have h7 := lt_f hO c1; rw [add_e hO] at h7; exact h7
            exfalso
            obtain ⟨a1, a2, a3⟩ := same_cal hd (Vd.of hw) (fun j hj => hkk j (by rw [hW] at hj; omega))
            simp [eqC, hv, hw, a1, a2, a3] at he
      · rename_i k1
        cbv
        have : e = false := by
          have := eq_f hO k1
          rw [← he]; simp [eqC, this]
        subst this
        rw [show O .not (O .beq false false) = false by subst hO; rfl]
        cbv
        refine call_go hO hX (valid_fn hw) (by kernel_rfl) [1] rfl ⟨rfl, rfl, trivial⟩ rfl ?_
        rintro _ _ ⟨rfl, rfl⟩
        cbv
        rw [(not_lit hO).1]
        cbv
        refine call_go hO hX (equal_fn he) (by kernel_rfl) [0, 1] rfl ⟨rfl, rfl, rfl, rfl, trivial⟩ rfl ?_
        rintro _ _ ⟨rfl, rfl⟩
        cbv
        have nm : l.length * l'.length ≤ 60 * 60 := Nat.mul_le_mul hl60 hl61
        have mu : O .mul (O .ofNat (O .len .i2 l)) (O .ofNat (O .len .i2 l')) = ((l.length * l'.length : Nat) : Int) := by rw [mul_e hO, ofNat_e hO, ofNat_e hO, len_e hO, len_e hO, ← Int.natCast_mul]
        obtain ⟨W, hW⟩ : ∃ W, l.length * l'.length = W := ⟨_, rfl⟩
        rw [hW] at nm mu
        obtain ⟨z, hz⟩ : ∃ z : Int, (W : Int) = z := ⟨_, rfl⟩
        rw [hz] at mu
        have hz2 : z.toNat = W ∧ 0 ≤ z := by omega
        clear hz
        rw [mu]
        refine ⟨inr_mk hO (by omega) (by omega), inr_mk hO (by rw [add_e hO]; omega) (by rw [add_e hO]; omega), ?_⟩
        refine loop1 tab_holds eqs_holds mixed [(6, [(1, [0, 1, 2, 3, 4])], []), (21, [(1, [0, 1, 3]), (2, [2]), (2, [4]), (1, [5, 6, 7, 8, 9, 10, 11, 12, 13, 14, 15, 16, 17, 18, 19, 20, 21, 22, 23]), (2, [24]), (1, [25, 26])], [])] hO hX (fun (k : Int) => (0 ≤ k ∧ k.toNat ≤ W + 1) ∧ ∀ j : Nat, j < k.toNat → atF o p l j = atF o' p' l' j ∧ atT o p l j = atT o' p' l' j) (fun k => [(144, .c (.int .i64 k))]) (fun _ => []) (fun k => W + 1 - k.toNat) 0 (by kernel_rfl) ⟨by omega, fun j h => absurd h (by simp)⟩ (by cbv; try simp) ?_
        intro k hK
        have hk := hK.1; have hkk := hK.2
        cbv
        split
        · rename_i c1
          have c2 : k < z + 1 := by have h7 := lt_t hO c1; rw [add_e hO] at h7; exact h7
          cbv
          obtain ⟨a, ha⟩ : ∃ a, spanF o p l k = a := ⟨_, rfl⟩
          obtain ⟨b, hb⟩ : ∃ b, spanT o p l k = b := ⟨_, rfl⟩
          obtain ⟨E, hE⟩ : ∃ E, spanE o p l k = E := ⟨_, rfl⟩
          refine call_go hO hX (span_fn (by omega) (by omega) ⟨ha, hb, hE⟩) (by kernel_rfl) [0] rfl ⟨rfl, rfl, trivial⟩ rfl ?_
          rintro _ _ ⟨rfl, rfl⟩
          cbv
          obtain ⟨a', ha'⟩ : ∃ a, spanF o' p' l' k = a := ⟨_, rfl⟩
          obtain ⟨b', hb'⟩ : ∃ b, spanT o' p' l' k = b := ⟨_, rfl⟩
          obtain ⟨E', hE'⟩ : ∃ E, spanE o' p' l' k = E := ⟨_, rfl⟩
          refine call_go hO hX (span_fn (by omega) (by omega) ⟨ha', hb', hE'⟩) (by kernel_rfl) [1] rfl ⟨rfl, rfl, trivial⟩ rfl ?_
          rintro _ _ ⟨rfl, rfl⟩
          cbv
          split
          · rename_i d1
            cbv
            exact fin_plain hX rfl rfl (by cbv) ⟨rfl, rfl⟩
          rename_i d1
          have d2 := ne_f hO d1
          cbv
          split
          · rename_i d3
            cbv
            exact fin_plain hX rfl rfl (by cbv) ⟨rfl, rfl⟩
          rename_i d3
          have d4 : a = a' ∧ b = b' := by subst hO; simpa [std] using d3
          cbv
          split
          · rename_i d5
            cbv
            exact fin_plain hX rfl rfl (by cbv) ⟨rfl, rfl⟩
          rename_i d5
          have d6 := ne_f hO d5
          have s1 := spanE_zero (hE.trans d6)
          have s2 := spanE_zero (hE'.trans (d2.symm.trans d6))
          have s3 : atF o p l k = atF o' p' l' k ∧ atT o p l k = atT o' p' l' k := by
            rw [← s1.2.2.2.1, ← s1.2.2.2.2, ← s2.2.2.2.1, ← s2.2.2.2.2, ha, hb, ha', hb']; exact d4
          clear s1 s2
          cbv
          refine ⟨inr_mk hO (by rw [add_e hO]; omega) (by rw [add_e hO]; omega), O .add k 1, [0, 1, 2, 3, 4, 5, 6], ⟨by rw [add_e hO]; omega, fun j hj => ?_⟩, by cbv; try simp, by rw [add_e hO]; omega⟩
          rw [add_e hO] at hj
          by_cases hjk : j < k.toNat
          · exact hkk j hjk
          · have e : k = (j : Int) := by omega
            rw [e] at s3
            exact s3
        · rename_i c1
          have c2 : z + 1 ≤ k := by have h7 := lt_f hO c1; rw [add_e hO] at h7; exact h7
          exfalso
          obtain ⟨a1, a2, a3⟩ := same_cal hd (Vd.of hw) (fun j hj => hkk j (by rw [hW] at hj; omega))
          simp [eqC, hv, hw, a1, a2, a3] at he
  rename_i h3
  have hp : m * p ≤ 12622780800 := by
    have h4 := lt_f hO h3
    rw [hq] at h4
    have h5 := Int.mul_ediv_self_le (x := 12622780800) (k := m) (by omega)
    have h6 : m * p ≤ m * (12622780800 / m) := Int.mul_le_mul_of_nonneg_left h4 (by omega)
    omega
  cbv
  refine loop2 tab_holds eqs_holds mixed [(6, [(1, [0, 1, 2, 3, 4])], []), (21, [(1, [0, 1, 3]), (2, [2]), (2, [4]), (1, [5, 6, 7, 8, 9, 10, 11, 12, 13, 14, 15, 16, 17, 18, 19, 20, 21, 22, 23]), (2, [24]), (1, [25, 26])], [])] hO hX (fun (i : Int) (L : List Sp) => (0 ≤ i ∧ i ≤ m) ∧ L = repK p l (i.toNat * l.length)) (fun i _ => [(46, .c (.int .i64 i)), (8, .c (.sl 4))]) (fun _ L => [(4, .own 28 .i2 L)]) (fun i _ => (m - i).toNat) 0 [] (by kernel_rfl) ⟨by omega, by simp [repK]⟩ (by cbv; simp) ?_
  intro i L hI
  have hi := hI.1; have hL := hI.2
  cbv
  split
  · rename_i h4
    cbv
    refine loop2 tab_holds eqs_holds mixed [(6, [(1, [0, 1, 2, 3, 4])], []), (21, [(1, [0, 1, 3]), (2, [2]), (2, [4]), (1, [5, 6, 7, 8, 9, 10, 11, 12, 13, 14, 15, 16, 17, 18, 19, 20, 21, 22, 23]), (2, [24]), (1, [25, 26])], [])] hO hX (fun (j : Int) (L : List Sp) => (0 ≤ j ∧ j ≤ (l.length : Int)) ∧ L = repK p l (i.toNat * l.length + j.toNat)) (fun j _ => [(52, .c (.int .i64 j)), (8, .c (.sl 4))]) (fun _ L => [(4, .own 28 .i2 L)]) (fun j _ => ((l.length : Int) - j).toNat) 0 L (by kernel_rfl) ⟨by omega, hL⟩ (by cbv) ?_
    intro j L2 hJ
    have hj := hJ.1; have hL2 := hJ.2
    cbv
    split
    · rename_i h5
      have g4 := lt_t hO h4
      have g5 := lt_t hO h5
      rw [ofNat_e hO, len_e hO] at g5
      have q1 : 0 ≤ j ∧ j < (l.length : Int) := by omega
      have q2 : j.toNat < l.length := by omega
      have hb := hd.bd (k := j.toNat) (by omega)
      have hip : 0 ≤ i * p ∧ i * p ≤ m * p := ⟨Int.mul_nonneg hi.1 (by omega), Int.mul_le_mul_of_nonneg_right hi.2 (by omega)⟩
      cbv
      obtain ⟨⟨xa, xb⟩, hx⟩ : ∃ x : Sp, O .get .i2 l (O .toNat j) = x := ⟨_, rfl⟩
      have hy := hx
      rw [get_e hO, toNat_e hO] at hy
      have e1 : xa = fr l j.toNat := (congrArg Prod.fst hy).symm
      have e2 : xb = tt l j.toNat := (congrArg Prod.snd hy).symm
      clear hy
      rw [hx]
      cbv
      refine ⟨idx_mk hO q1, kin_mk hO (by rw [toNat_e hO]; exact q2), inr_mk hO (by rw [mul_e hO]; omega) (by rw [mul_e hO]; omega), inr_mk hO (by rw [add_e hO, mul_e hO]; omega) (by rw [add_e hO, mul_e hO]; omega), inr_mk hO (by rw [mul_e hO]; omega) (by rw [mul_e hO]; omega), inr_mk hO (by rw [add_e hO, mul_e hO]; omega) (by rw [add_e hO, mul_e hO]; omega), room_mk hO ?_, room_mk hO (by simp), inr_mk hO (by rw [add_e hO]; omega) (by rw [add_e hO]; omega), O .add j 1, O .app .i2 L2 [(O .add xa (O .mul i p), O .add xb (O .mul i p))], [0, 1, 2, 3, 7], ⟨by rw [add_e hO]; omega, ?_⟩, by cbv; try simp, ?_⟩
      · rw [hL2, repK_len]
        have : i.toNat * l.length ≤ 20 * l.length := Nat.mul_le_mul_right _ (by omega)
        omega
      · rw [app_e hO, hL2, e1, e2, add_e hO, add_e hO, add_e hO, mul_e hO, show (j + 1).toNat = j.toNat + 1 by omega]
        have := repK_next p (l := l) (i := i.toNat) (j := j.toNat) (by omega)
        rw [show ((i.toNat : Nat) : Int) = i by omega] at this
        rw [← Nat.add_assoc, this]
      · rw [add_e hO]; omega
    · rename_i h5
      have g4 := lt_t hO h4
      have g5 := lt_f hO h5
      rw [ofNat_e hO, len_e hO] at g5
      have q5 : j.toNat = l.length := by have h6 : j ≤ (l.length : Int) := hj.2; have : (l.length : Int) ≤ j := g5; omega
      cbv
      refine ⟨inr_mk hO (by rw [add_e hO]; omega) (by rw [add_e hO]; omega), O .add i 1, L2, [0, 1, 2, 3, 4], ⟨by rw [add_e hO]; omega, ?_⟩, by cbv; try simp, ?_⟩
      · rw [hL2, add_e hO, show (i + 1).toNat = i.toNat + 1 by omega, Nat.succ_mul, q5]
      · rw [add_e hO]; omega
  · rename_i h4
    have g4 := lt_f hO h4
    cbv
    have hmp : 1 * p ≤ m * p := Int.mul_le_mul_of_nonneg_right hm1.1 (by omega)
    refine ⟨inr_mk hO (by rw [mul_e hO]; omega) (by rw [mul_e hO]; omega), ?_⟩
    refine call_go hO hX (of_fn (o := o) (p := O .mul m p) (l := L) (O := o) (P := p) (E := 0) (L := l) ?_) (by kernel_rfl) [4] rfl ⟨rfl, rfl, trivial⟩ rfl ?_
    · have := rep_of hv (m := m.toNat) (by omega) (Nat.le_trans (Nat.mul_le_mul_right _ (show m.toNat ≤ 20 by omega)) (by omega)) (by rw [show ((m.toNat : Nat) : Int) = m by omega]; exact hp)
      rw [mul_e hO, hL, show i = m by omega]
      rw [show ((m.toNat : Nat) : Int) = m by omega] at this
      exact this
    rintro _ _ ⟨rfl, rfl⟩
    cbv
    rw [show O .not (O .eq 0 0) = false by subst hO; rfl]
    cbv
    refine call_go hO hX (equal_fn (v := true) ?_) (by kernel_rfl) [5, 0] rfl ⟨rfl, rfl, rfl, rfl, trivial⟩ rfl ?_
    · simp [eqC, hv]
    rintro _ _ ⟨rfl, rfl⟩
    cbv
    rw [(not_lit hO).1]
    cbv
    refine call_go hO hX (equal_fn (v := true) ?_) (by kernel_rfl) [0, 0] rfl ⟨rfl, rfl, rfl, rfl, trivial⟩ rfl ?_
    · simp [eqC, hv]
    rintro _ _ ⟨rfl, rfl⟩
    cbv
    rw [(not_lit hO).1]
    cbv
    obtain ⟨w, hw⟩ : ∃ w, validB o' p' l' = w := ⟨_, rfl⟩
    obtain ⟨e, he⟩ : ∃ e, eqC o p l o' p' l' = e := ⟨_, rfl⟩
    refine call_go hO hX (equal_fn he) (by kernel_rfl) [0, 1] rfl ⟨rfl, rfl, rfl, rfl, trivial⟩ rfl ?_
    rintro _ _ ⟨rfl, rfl⟩
    cbv
    refine call_go hO hX (valid_fn hw) (by kernel_rfl) [1] rfl ⟨rfl, rfl, trivial⟩ rfl ?_
    rintro _ _ ⟨rfl, rfl⟩
    cbv
    cases w
    · have : e = false := by rw [← he, eqC, hw]; simp
      subst this
      cbv
      rw [show O .not (O .beq false false) = false by subst hO; rfl]
      cbv
      refine call_go hO hX (valid_fn hw) (by kernel_rfl) [1] rfl ⟨rfl, rfl, trivial⟩ rfl ?_
      rintro _ _ ⟨rfl, rfl⟩
      cbv
      rw [(not_lit hO).2]
      cbv
      exact fin_plain hX rfl rfl (by cbv) ⟨rfl, rfl⟩
    cbv
    split
    · rename_i k1
      cbv
      split
      · rename_i k2
        cbv
        obtain ⟨u, hu⟩ : ∃ u, decide (l = l') = u := ⟨_, rfl⟩
        refine call_go hO hX (sequal_fn hu) (by kernel_rfl) [0, 1] rfl ⟨rfl, rfl, rfl, rfl, trivial⟩ rfl ?_
        rintro _ _ ⟨rfl, rfl⟩
        cbv
        have : e = u := by rw [← he, eqC, hv, hw, eq_t hO k1, eq_t hO k2, hu]; simp
        subst this
        rw [show O .not (O .beq e e) = false by subst hO; simp [std]]
        cbv
        refine call_go hO hX (valid_fn hw) (by kernel_rfl) [1] rfl ⟨rfl, rfl, trivial⟩ rfl ?_
        rintro _ _ ⟨rfl, rfl⟩
        cbv
        rw [(not_lit hO).1]
        cbv
        refine call_go hO hX (equal_fn he) (by kernel_rfl) [0, 1] rfl ⟨rfl, rfl, rfl, rfl, trivial⟩ rfl ?_
        rintro _ _ ⟨rfl, rfl⟩
        cbv
        cases e
        · cbv
          have nm : l.length * l'.length ≤ 60 * 60 := Nat.mul_le_mul hl60 hl61
          have mu : O .mul (O .ofNat (O .len .i2 l)) (O .ofNat (O .len .i2 l')) = ((l.length * l'.length : Nat) : Int) := by rw [mul_e hO, ofNat_e hO, ofNat_e hO, len_e hO, len_e hO, ← Int.natCast_mul]
          obtain ⟨W, hW⟩ : ∃ W, l.length * l'.length = W := ⟨_, rfl⟩
          rw [hW] at nm mu
          obtain ⟨z, hz⟩ : ∃ z : Int, (W : Int) = z := ⟨_, rfl⟩
          rw [hz] at mu
          have hz2 : z.toNat = W ∧ 0 ≤ z := by omega
          clear hz
          rw [mu]
          refine ⟨inr_mk hO (by omega) (by omega), inr_mk hO (by rw [add_e hO]; omega) (by rw [add_e hO]; omega), ?_⟩
          refine loop1 tab_holds eqs_holds mixed [(6, [(1, [0, 1, 2, 3, 4])], []), (21, [(1, [0, 1, 3]), (2, [2]), (2, [4]), (1, [5, 6, 7, 8, 9, 10, 11, 12, 13, 14, 15, 16, 17, 18, 19, 20, 21, 22, 23]), (2, [24]), (1, [25, 26])], [])] hO hX (fun (k : Int) => (0 ≤ k ∧ k.toNat ≤ W + 1) ∧ ∀ j : Nat, j < k.toNat → atF o p l j = atF o' p' l' j ∧ atT o p l j = atT o' p' l' j) (fun k => [(144, .c (.int .i64 k))]) (fun _ => []) (fun k => W + 1 - k.toNat) 0 (by kernel_rfl) ⟨by omega, fun j h => absurd h (by simp)⟩ (by cbv; try simp) ?_
          intro k hK
          have hk := hK.1; have hkk := hK.2
          cbv
          split
          · rename_i c1
            have c2 : k < z + 1 := by have h7 := lt_t hO c1; rw [add_e hO] at h7; exact h7
            cbv
            obtain ⟨a, ha⟩ : ∃ a, spanF o p l k = a := ⟨_, rfl⟩
            obtain ⟨b, hb⟩ : ∃ b, spanT o p l k = b := ⟨_, rfl⟩
            obtain ⟨E, hE⟩ : ∃ E, spanE o p l k = E := ⟨_, rfl⟩
            refine call_go hO hX (span_fn (by omega) (by omega) ⟨ha, hb, hE⟩) (by kernel_rfl) [0] rfl ⟨rfl, rfl, trivial⟩ rfl ?_
            rintro _ _ ⟨rfl, rfl⟩
            cbv
            obtain ⟨a', ha'⟩ : ∃ a, spanF o' p' l' k = a := ⟨_, rfl⟩
            obtain ⟨b', hb'⟩ : ∃ b, spanT o' p' l' k = b := ⟨_, rfl⟩
            obtain ⟨E', hE'⟩ : ∃ E, spanE o' p' l' k = E := ⟨_, rfl⟩
            refine call_go hO hX (span_fn (by omega) (by omega) ⟨ha', hb', hE'⟩) (by kernel_rfl) [1] rfl ⟨rfl, rfl, trivial⟩ rfl ?_
            rintro _ _ ⟨rfl, rfl⟩
            cbv
            split
            · rename_i d1
              cbv
              exact fin_plain hX rfl rfl (by cbv) ⟨rfl, rfl⟩
            rename_i d1
            have d2 := ne_f hO d1
            cbv
            split
            · rename_i d3
              cbv
              exact fin_plain hX rfl rfl (by cbv) ⟨rfl, rfl⟩
            rename_i d3
            have d4 : a = a' ∧ b = b' := by subst hO; simpa [std] using d3
            cbv
            split
            · rename_i d5
              cbv
              exact fin_plain hX rfl rfl (by cbv) ⟨rfl, rfl⟩
            rename_i d5
            have d6 := ne_f hO d5
            have s1 := spanE_zero (hE.trans d6)
            have s2 := spanE_zero (hE'.trans (d2.symm.trans d6))
            have s3 : atF o p l k = atF o' p' l' k ∧ atT o p l k = atT o' p' l' k := by
              rw [← s1.2.2.2.1, ← s1.2.2.2.2, ← s2.2.2.2.1, ← s2.2.2.2.2, ha, hb, ha', hb']; exact d4
            clear s1 s2
            cbv
            refine ⟨inr_mk hO (by rw [add_e hO]; omega) (by rw [add_e hO]; omega), O .add k 1, [0, 1, 2, 3, 4, 5, 6], ⟨by rw [add_e hO]; omega, fun j hj => ?_⟩, by cbv; try simp, by rw [add_e hO]; omega⟩
            rw [add_e hO] at hj
            by_cases hjk : j < k.toNat
            · exact hkk j hjk
            · have e : k = (j : Int) := by omega
              rw [e] at s3
              exact s3
          · rename_i c1
            have c2 : z + 1 ≤ k := by have h7 := lt_f hO c1; rw [add_e hO] at h7; exact h7
            exfalso
            obtain ⟨a1, a2, a3⟩ := same_cal hd (Vd.of hw) (fun j hj => hkk j (by rw [hW] at hj; omega))
            simp [eqC, hv, hw, a1, a2, a3] at he
        · cbv
          exact fin_plain hX rfl rfl (by cbv) ⟨rfl, rfl⟩
      · rename_i k2
        cbv
        have : e = false := by
          have := eq_f hO k2
          rw [← he]; simp [eqC, this]
        subst this
        rw [show O .not (O .beq false false) = false by subst hO; rfl]
        cbv
        refine call_go hO hX (valid_fn hw) (by kernel_rfl) [1] rfl ⟨rfl, rfl, trivial⟩ rfl ?_
        rintro _ _ ⟨rfl, rfl⟩
        cbv
        rw [(not_lit hO).1]
        cbv
        refine call_go hO hX (equal_fn he) (by kernel_rfl) [0, 1] rfl ⟨rfl, rfl, rfl, rfl, trivial⟩ rfl ?_
        rintro _ _ ⟨rfl, rfl⟩
        cbv
        have nm : l.length * l'.length ≤ 60 * 60 := Nat.mul_le_mul hl60 hl61
        have mu : O .mul (O .ofNat (O .len .i2 l)) (O .ofNat (O .len .i2 l')) = ((l.length * l'.length : Nat) : Int) := by rw [mul_e hO, ofNat_e hO, ofNat_e hO, len_e hO, len_e hO, ← Int.natCast_mul]
        obtain ⟨W, hW⟩ : ∃ W, l.length * l'.length = W := ⟨_, rfl⟩
        rw [hW] at nm mu
        obtain ⟨z, hz⟩ : ∃ z : Int, (W : Int) = z := ⟨_, rfl⟩
        rw [hz] at mu
        have hz2 : z.toNat = W ∧ 0 ≤ z := by omega
        clear hz
        rw [mu]
        refine ⟨inr_mk hO (by omega) (by omega), inr_mk hO (by rw [add_e hO]; omega) (by rw [add_e hO]; omega), ?_⟩
        refine loop1 tab_holds eqs_holds mixed [(6, [(1, [0, 1, 2, 3, 4])], []), (21, [(1, [0, 1, 3]), (2, [2]), (2, [4]), (1, [5, 6, 7, 8, 9, 10, 11, 12, 13, 14, 15, 16, 17, 18, 19, 20, 21, 22, 23]), (2, [24]), (1, [25, 26])], [])] hO hX (fun (k : Int) => (0 ≤ k ∧ k.toNat ≤ W + 1) ∧ ∀ j : Nat, j < k.toNat → atF o p l j = atF o' p' l' j ∧ atT o p l j = atT o' p' l' j) (fun k => [(144, .c (.int .i64 k))]) (fun _ => []) (fun k => W + 1 - k.toNat) 0 (by kernel_rfl) ⟨by omega, fun j h => absurd h (by simp)⟩ (by cbv; try simp) ?_
        intro k hK
        have hk := hK.1; have hkk := hK.2
        cbv
        split
        · rename_i c1
          have c2 : k < z + 1 := by have h7 := lt_t hO c1; rw [add_e hO] at h7; exact h7
          cbv
          obtain ⟨a, ha⟩ : ∃ a, spanF o p l k = a := ⟨_, rfl⟩
          obtain ⟨b, hb⟩ : ∃ b, spanT o p l k = b := ⟨_, rfl⟩
          obtain ⟨E, hE⟩ : ∃ E, spanE o p l k = E := ⟨_, rfl⟩
          refine call_go hO hX (span_fn (by omega) (by omega) ⟨ha, hb, hE⟩) (by kernel_rfl) [0] rfl ⟨rfl, rfl, trivial⟩ rfl ?_
          rintro _ _ ⟨rfl, rfl⟩
          cbv
          obtain ⟨a', ha'⟩ : ∃ a, spanF o' p' l' k = a := ⟨_, rfl⟩
          obtain ⟨b', hb'⟩ : ∃ b, spanT o' p' l' k = b := ⟨_, rfl⟩
          obtain ⟨E', hE'⟩ : ∃ E, spanE o' p' l' k = E := ⟨_, rfl⟩
          refine call_go hO hX (span_fn (by omega) (by omega) ⟨ha', hb', hE'⟩) (by kernel_rfl) [1] rfl ⟨rfl, rfl, trivial⟩ rfl ?_
          rintro _ _ ⟨rfl, rfl⟩
          cbv
          split
          · rename_i d1
            cbv
            exact fin_plain hX rfl rfl (by cbv) ⟨rfl, rfl⟩
          rename_i d1
          have d2 := ne_f hO d1
          cbv
          split
          · rename_i d3
            cbv
            exact fin_plain hX rfl rfl (by cbv) ⟨rfl, rfl⟩
          rename_i d3
          have d4 : a = a' ∧ b = b' := by subst hO; simpa [std] using d3
          cbv
          split
          · rename_i d5
            cbv
            exact fin_plain hX rfl rfl (by cbv) ⟨rfl, rfl⟩
          rename_i d5
          have d6 := ne_f hO d5
          have s1 := spanE_zero (hE.trans d6)
          have s2 := spanE_zero (hE'.trans (d2.symm.trans d6))
          have s3 : atF o p l k = atF o' p' l' k ∧ atT o p l k = atT o' p' l' k := by
            rw [← s1.2.2.2.1, ← s1.2.2.2.2, ← s2.2.2.2.1, ← s2.2.2.2.2, ha, hb, ha', hb']; exact d4
          clear s1 s2
          cbv
          refine ⟨inr_mk hO (by rw [add_e hO]; omega) (by rw [add_e hO]; omega), O .add k 1, [0, 1, 2, 3, 4, 5, 6], ⟨by rw [add_e hO]; omega, fun j hj => ?_⟩, by cbv; try simp, by rw [add_e hO]; omega⟩
          rw [add_e hO] at hj
          by_cases hjk : j < k.toNat
          · exact hkk j hjk
          · have e : k = (j : Int) := by omega
            rw [e] at s3
            exact s3
        · rename_i c1
          have c2 : z + 1 ≤ k := by have h7 := lt_f hO c1; rw [add_e hO] at h7; exact h7
          exfalso
          obtain ⟨a1, a2, a3⟩ := same_cal hd (Vd.of hw) (fun j hj => hkk j (by rw [hW] at hj; omega))
          simp [eqC, hv, hw, a1, a2, a3] at he
    · rename_i k1
      cbv
      have : e = false := by
        have := eq_f hO k1
        rw [← he]; simp [eqC, this]
      subst this
      rw [show O .not (O .beq false false) = false by subst hO; rfl]
      cbv
      refine call_go hO hX (valid_fn hw) (by kernel_rfl) [1] rfl ⟨rfl, rfl, trivial⟩ rfl ?_
      rintro _ _ ⟨rfl, rfl⟩
      cbv
      rw [(not_lit hO).1]
      cbv
      refine call_go hO hX (equal_fn he) (by kernel_rfl) [0, 1] rfl ⟨rfl, rfl, rfl, rfl, trivial⟩ rfl ?_
      rintro _ _ ⟨rfl, rfl⟩
      cbv
      have nm : l.length * l'.length ≤ 60 * 60 := Nat.mul_le_mul hl60 hl61
      have mu : O .mul (O .ofNat (O .len .i2 l)) (O .ofNat (O .len .i2 l')) = ((l.length * l'.length : Nat) : Int) := by rw [mul_e hO, ofNat_e hO, ofNat_e hO, len_e hO, len_e hO, ← Int.natCast_mul]
      obtain ⟨W, hW⟩ : ∃ W, l.length * l'.length = W := ⟨_, rfl⟩
      rw [hW] at nm mu
      obtain ⟨z, hz⟩ : ∃ z : Int, (W : Int) = z := ⟨_, rfl⟩
      rw [hz] at mu
      have hz2 : z.toNat = W ∧ 0 ≤ z := by omega
      clear hz
      rw [mu]
      refine ⟨inr_mk hO (by omega) (by omega), inr_mk hO (by rw [add_e hO]; omega) (by rw [add_e hO]; omega), ?_⟩
      refine loop1 tab_holds eqs_holds mixed [(6, [(1, [0, 1, 2, 3, 4])], []), (21, [(1, [0, 1, 3]), (2, [2]), (2, [4]), (1, [5, 6, 7, 8, 9, 10, 11, 12, 13, 14, 15, 16, 17, 18, 19, 20, 21, 22, 23]), (2, [24]), (1, [25, 26])], [])] hO hX (fun (k : Int) => (0 ≤ k ∧ k.toNat ≤ W + 1) ∧ ∀ j : Nat, j < k.toNat → atF o p l j = atF o' p' l' j ∧ atT o p l j = atT o' p' l' j) (fun k => [(144, .c (.int .i64 k))]) (fun _ => []) (fun k => W + 1 - k.toNat) 0 (by kernel_rfl) ⟨by omega, fun j h => absurd h (by simp)⟩ (by cbv; try simp) ?_
      intro k hK
      have hk := hK.1; have hkk := hK.2
      cbv
      split
      · rename_i c1
        have c2 : k < z + 1 := by have h7 := lt_t hO c1; rw [add_e hO] at h7; exact h7
        cbv
        obtain ⟨a, ha⟩ : ∃ a, spanF o p l k = a := ⟨_, rfl⟩
        obtain ⟨b, hb⟩ : ∃ b, spanT o p l k = b := ⟨_, rfl⟩
        obtain ⟨E, hE⟩ : ∃ E, spanE o p l k = E := ⟨_, rfl⟩
        refine call_go hO hX (span_fn (by omega) (by omega) ⟨ha, hb, hE⟩) (by kernel_rfl) [0] rfl ⟨rfl, rfl, trivial⟩ rfl ?_
        rintro _ _ ⟨rfl, rfl⟩
        cbv
        obtain ⟨a', ha'⟩ : ∃ a, spanF o' p' l' k = a := ⟨_, rfl⟩
        obtain ⟨b', hb'⟩ : ∃ b, spanT o' p' l' k = b := ⟨_, rfl⟩
        obtain ⟨E', hE'⟩ : ∃ E, spanE o' p' l' k = E := ⟨_, rfl⟩
        refine call_go hO hX (span_fn (by omega) (by omega) ⟨ha', hb', hE'⟩) (by kernel_rfl) [1] rfl ⟨rfl, rfl, trivial⟩ rfl ?_
        rintro _ _ ⟨rfl, rfl⟩
        cbv
        split
        · rename_i d1
          cbv
          exact fin_plain hX rfl rfl (by cbv) ⟨rfl, rfl⟩
        rename_i d1
        have d2 := ne_f hO d1
        cbv
        split
        · rename_i d3
          cbv
          exact fin_plain hX rfl rfl (by cbv) ⟨rfl, rfl⟩
        rename_i d3
        have d4 : a = a' ∧ b = b' := by subst hO; simpa [std] using d3
        cbv
        split
        · rename_i d5
          cbv
          exact fin_plain hX rfl rfl (by cbv) ⟨rfl, rfl⟩
        rename_i d5
        have d6 := ne_f hO d5
        have s1 := spanE_zero (hE.trans d6)
        have s2 := spanE_zero (hE'.trans (d2.symm.trans d6))
        have s3 : atF o p l k = atF o' p' l' k ∧ atT o p l k = atT o' p' l' k := by
          rw [← s1.2.2.2.1, ← s1.2.2.2.2, ← s2.2.2.2.1, ← s2.2.2.2.2, ha, hb, ha', hb']; exact d4
        clear s1 s2
        cbv
        refine ⟨inr_mk hO (by rw [add_e hO]; omega) (by rw [add_e hO]; omega), O .add k 1, [0, 1, 2, 3, 4, 5, 6], ⟨by rw [add_e hO]; omega, fun j hj => ?_⟩, by cbv; try simp, by rw [add_e hO]; omega⟩
        rw [add_e hO] at hj
        by_cases hjk : j < k.toNat
        · exact hkk j hjk
        · have e : k = (j : Int) := by omega
          rw [e] at s3
          exact s3
      · rename_i c1
        have c2 : z + 1 ≤ k := by have h7 := lt_f hO c1; rw [add_e hO] at h7; exact h7
        exfalso
        obtain ⟨a1, a2, a3⟩ := same_cal hd (Vd.of hw) (fun j hj => hkk j (by rw [hW] at hj; omega))
        simp [eqC, hv, hw, a1, a2, a3] at he
end Go.Proofs.Ytnieceplfjmocaa
