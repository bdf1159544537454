/-
  The walk of GranuleCivil, in parts.
-/
import Derived.Test.YtnieceplfjmocaaCivLaw
namespace Go.Proofs.Ytnieceplfjmocaa
open Go.RowKit
theorem tq_parts (k : Int) : k = 12 * k.tdiv 12 + k.tmod 12 ∧ -12 < k.tmod 12 ∧ k.tmod 12 < 12 ∧ (0 ≤ k → 0 ≤ k.tmod 12) ∧ (k ≤ 0 → k.tmod 12 ≤ 0) := by
  have h1 := Int.mul_tdiv_add_tmod k 12
  rcases Int.le_total 0 k with h | h
  · have := Int.tmod_eq_emod_of_nonneg (b := 12) h
    omega
  · obtain ⟨j, rfl⟩ : ∃ j, k = -j := ⟨-k, by omega⟩
    have h2 := Int.neg_tmod (a := j) (b := 12)
    have := Int.tmod_eq_emod_of_nonneg (a := j) (b := 12) (by omega)
    omega
theorem span_of {o p : Int} {l : List Sp} (hv : Vd o p l) (k a b : Int) (h1 : atF o p l k = a) (h2 : atT o p l k = b) (ha : -4000000 ≤ a ∧ a ≤ 4000000) (hb : -4000000 ≤ b ∧ b ≤ 4000000) : spanF o p l k = a ∧ spanT o p l k = b ∧ spanE o p l k = 0 := by
  have ho : onB o p l k = true := by rw [onB, h1, h2, Bool.and_eq_true]; exact ⟨lineB_iff.2 (by omega), lineB_iff.2 (by omega)⟩
  have h := spanE_on (k := k) hv.back ho
  exact ⟨by rw [← h1]; exact h.2.1, by rw [← h2]; exact h.2.2, h.1⟩
theorem span_mon {k : Int} (h1 : -23900 ≤ k) (h2 : k ≤ 96900) : spanF 0 (ofP monP monS) (ofL monP monS) k = Mo k ∧ spanT 0 (ofP monP monS) (ofL monP monS) k = Mo (k + 1) ∧ spanE 0 (ofP monP monS) (ofL monP monS) k = 0 := by
  have hv := of_valid mon_okB
  have hf0 : fr monS 0 = 0 := (mon_fr 0 (by omega)).1
  rw [hf0] at hv
  have b1 := mo_bd (t := k) (by omega) (by omega)
  have b2 := mo_bd (t := k + 1) (by omega) (by omega)
  exact span_of hv k _ _ (mon_at k).1 (mon_at k).2 (by omega) (by omega)
theorem years_okB {f : Nat} (hf : f ≤ 11) : OfOkB (Mo f) 146097 (yeS f) := by
  have ha := row_asc (years_ok hf)
  rw [yearsL_len] at ha
  have hlen : (yeS f).length = 400 := rowTo_len _ _
  have hf0 : fr (yeS f) 0 = 0 := by rw [yeS, fr_row (by omega)]; rfl
  have htl : tt (yeS f) ((yeS f).length - 1) = 146097 := by rw [hlen, yeS, tt_row (by omega)]; exact years_per hf
  have b1 := mo_bd (t := f) (by omega) (by omega)
  exact ⟨by omega, by omega, ha, by rw [htl, hf0]; omega, by omega, lineB_iff.2 (by omega), halfB_iff.2 (by rw [hf0]; omega)⟩
theorem span_years {f : Nat} (hf : f ≤ 11) {k : Int} (h1 : -1990 ≤ k) (h2 : k ≤ 8050) : spanF (Mo f) (ofP 146097 (yeS f)) (ofL 146097 (yeS f)) k = Mo (f + 12 * k) ∧ spanT (Mo f) (ofP 146097 (yeS f)) (ofL 146097 (yeS f)) k = Mo (f + 12 * (k + 1)) ∧ spanE (Mo f) (ofP 146097 (yeS f)) (ofL 146097 (yeS f)) k = 0 := by
  have hv := of_valid (years_okB hf)
  have hf0 : fr (yeS f) 0 = 0 := by rw [yeS, fr_row (by omega)]; rfl
  rw [hf0, Int.add_zero] at hv
  have b1 := mo_bd (t := f + 12 * k) (by omega) (by omega)
  have b2 := mo_bd (t := f + 12 * (k + 1)) (by omega) (by omega)
  exact span_of hv k _ _ (years_at hf k).1 (years_at hf k).2 (by omega) (by omega)
theorem weeks_vd {v : Int} (h1 : 0 ≤ v) (h2 : v ≤ 6) : Vd (-v) 7 [(0, 7)] := by
  obtain ⟨r1, r2, r3, r4, r5⟩ := week_row
  have hok : OfOkB (-v) 7 [(0, 7)] := ⟨by omega, by omega, by decide, by decide, by decide, lineB_iff.2 (by omega), halfB_iff.2 (by show _ ≤ -v + 0 ∧ -v + 0 ≤ _; omega)⟩
  have hv := of_valid hok
  rw [r3, r4] at hv
  have e : -v + fr [(0, 7)] 0 = -v := by show -v + 0 = -v; omega
  rw [e] at hv
  exact hv
theorem weeks_at (v k : Int) : atF (-v) 7 [(0, 7)] k = 7 * k - v ∧ atT (-v) 7 [(0, 7)] k = 7 * k - v + 7 := by
  have hl : (([(0, 7)] : List Sp).length : Int) = 1 := rfl
  unfold atF atT
  rw [hl]
  have e1 : (k % 1).toNat = 0 := by omega
  have e2 : k / 1 = k := by omega
  rw [e1, e2]
  have e3 : fr [(0, 7)] 0 = 0 := rfl
  have e4 : tt [(0, 7)] 0 = 7 := rfl
  rw [e3, e4]; omega

set_option maxRecDepth 100000
set_option maxHeartbeats 40000000 in
theorem civil_yy {k n : Int} (hk1 : -9223372036854775808 ≤ k) (hk2 : k ≤ 9223372036854775807) (hn : 0 ≤ n ∧ n ≤ 255) (hm : 1 ≤ n % 14 ∧ n % 14 ≤ 12) (hw : 1 ≤ n % 9 ∧ n % 9 ≤ 7) : Fn Try.prog 10 [.c (.int .i64 k), .c (.int .u8 n)] [] (fun v c => v = .c (.bool true) ∧ c = []) := by
  refine fn_run tab_holds eqs_holds mixed [(15, [(1, [0, 1, 2, 3, 4, 5, 6, 7, 8, 9, 10, 11, 12]), (2, [13]), (1, [14, 15, 16, 17])], [])] Try.func10 (by kernel_rfl) (by kernel_rfl) (by decide) ?_
  intro O X hO hX
  cbv
  refine call_go hO hX awake_fn (by kernel_rfl) [] rfl trivial rfl ?_
  rintro _ _ ⟨rfl, rfl⟩
  cbv
  rw [(not_lit hO).1]
  cbv
  obtain ⟨mo, hmo⟩ : ∃ mo, O .rem n 14 = mo := ⟨_, rfl⟩
  obtain ⟨wd, hwd⟩ : ∃ wd, O .rem n 9 = wd := ⟨_, rfl⟩
  rw [hmo, hwd]
  have hmo1 : 0 ≤ mo ∧ mo ≤ 13 := by rw [← hmo, rem_e hO, Int.tmod_eq_emod_of_nonneg hn.1]; omega
  have hwd1 : 0 ≤ wd ∧ wd ≤ 8 := by rw [← hwd, rem_e hO, Int.tmod_eq_emod_of_nonneg hn.1]; omega
  have hmoe : n % 14 = mo := by rw [← hmo, rem_e hO, Int.tmod_eq_emod_of_nonneg hn.1]
  have hwde : n % 9 = wd := by rw [← hwd, rem_e hO, Int.tmod_eq_emod_of_nonneg hn.1]
  clear hmo hwd
  rw [hmoe] at hm
  rw [hwde] at hw
  have E00 : O .eq 0 0 = true := by subst hO; rfl
  have E20 : O .eq 2 0 = false := by subst hO; rfl
  have E22 : O .eq 2 2 = true := by subst hO; rfl
  have N1 := (not_lit hO).1
  have N0 := (not_lit hO).2
  have B11 : O .beq true true = true := by subst hO; rfl
  have B00 : O .beq false false = true := by subst hO; rfl
  have A11 : O .and true true = true := by subst hO; rfl
  refine ⟨inr_mk hO (by omega) (by omega), nz_mk hO (by omega), inr_mk hO (by omega) (by omega), nz_mk hO (by omega), ?_⟩
  obtain ⟨P2, hP2⟩ : ∃ P, ofP monP monS = P := ⟨_, rfl⟩
  obtain ⟨L2, hL2⟩ : ∃ L, ofL monP monS = L := ⟨_, rfl⟩
  have M1 : O .le 1 mo = true := by subst hO; simp [std]; omega
  have M2 : O .le mo 12 = true := by subst hO; simp [std]; omega
  obtain ⟨f, hf⟩ : ∃ f : Nat, (mo - 1).toNat = f := ⟨_, rfl⟩
  have hf1 : f ≤ 11 := by omega
  have hmf : mo = f + 1 := by omega
  obtain ⟨P1, hP1⟩ : ∃ P, ofP 146097 (yeS f) = P := ⟨_, rfl⟩
  obtain ⟨L1, hL1⟩ : ∃ L, ofL 146097 (yeS f) = L := ⟨_, rfl⟩
  obtain ⟨o1, ho1⟩ : ∃ o, Mo f = o := ⟨_, rfl⟩
  have hy := years_fn (first := mo) (o := o1) (P := P1) (L := L1) hm.1 hm.2 (by rw [hf, ← ho1]; exact mon_psum f (by omega)) (by rw [hf]; exact years_ok hf1) (by rw [hf, years_per hf1]; omega) (by rw [hf, years_per hf1]; exact hP1) (by rw [hf, years_per hf1]; exact hL1)
  refine call_go hO hX hy (by kernel_rfl) [] rfl trivial rfl ?_
  rintro _ _ ⟨rfl, rfl⟩
  cbv
  have W1 : O .le 1 wd = true := by subst hO; simp [std]; omega
  have W2 : O .le wd 7 = true := by subst hO; simp [std]; omega
  have hwk := weeks_fn hw.1 hw.2
  obtain ⟨v, hv⟩ : ∃ v, (4 - wd) % 7 = v := ⟨_, rfl⟩
  rw [hv] at hwk
  obtain ⟨v', hv'⟩ : ∃ v', -v = v' := ⟨_, rfl⟩
  rw [hv'] at hwk
  refine call_go hO hX hwk (by kernel_rfl) [] rfl trivial rfl ?_
  rintro _ _ ⟨rfl, rfl⟩
  cbv
  repeat ((first | rw [M1] | rw [M2] | rw [W1] | rw [W2] | rw [E00] | rw [E20] | rw [E22] | rw [N1] | rw [N0] | rw [B11] | rw [B00] | rw [A11] | rw [Ea] | rw [Eb] | rw [Ec] | rw [Ed] | rw [Ewb] | rw [Ewd]); (repeat (first | rw [M1] | rw [M2] | rw [W1] | rw [W2] | rw [E00] | rw [E20] | rw [E22] | rw [N1] | rw [N0] | rw [B11] | rw [B00] | rw [A11] | rw [Ea] | rw [Eb] | rw [Ec] | rw [Ed] | rw [Ewb] | rw [Ewd])); cbv)
  split
  · rename_i c1
    cbv
    exact fin_plain hX rfl rfl (by cbv) ⟨rfl, rfl⟩
  rename_i c1
  have c2 := lt_f hO c1
  cbv
  split
  · rename_i c3
    cbv
    exact fin_plain hX rfl rfl (by cbv) ⟨rfl, rfl⟩
  rename_i c3
  have c4 := le_f hO c3
  cbv
  obtain ⟨q, hq⟩ : ∃ q, O .quo k 12 = q := ⟨_, rfl⟩
  obtain ⟨r, hr⟩ : ∃ r, O .rem k 12 = r := ⟨_, rfl⟩
  rw [hq, hr]
  rw [quo_e hO] at hq
  rw [rem_e hO] at hr
  have hqr := tq_parts k
  rw [hq, hr] at hqr
  refine ⟨nz_mk hO (by omega), inr_mk hO (by omega) (by omega), inr_mk hO (by rw [add_e hO]; omega) (by rw [add_e hO]; omega), nz_mk hO (by omega), ?_⟩
  split
  · rename_i c5
    have c6 := lt_t hO c5
    cbv
    obtain ⟨yr, hyr⟩ : ∃ yr, O .sub (O .add 1970 q) 1 = yr := ⟨_, rfl⟩
    obtain ⟨rs, hrs⟩ : ∃ rs, O .add r 12 = rs := ⟨_, rfl⟩
    rw [hyr, hrs]
    have hyr2 : yr = 1970 + k / 12 := by rw [← hyr, sub_e hO, add_e hO]; omega
    have hrs2 : rs = k % 12 := by rw [← hrs, add_e hO]; omega
    refine ⟨inr_mk hO (by omega) (by omega), inr_mk hO (by omega) (by omega), ?_⟩
    obtain ⟨r1, hr1⟩ : ∃ r1, O .add rs 1 = r1 := ⟨_, rfl⟩
    have hr12 : r1 = k % 12 + 1 := by rw [← hr1, add_e hO]; omega
    rw [hr1]
    refine ⟨inr_mk hO (by omega) (by omega), ?_⟩
    have yb : yearB yr = true := yearB_iff.2 (by omega)
    obtain ⟨a0, ha0⟩ : ∃ a, Mo k = a := ⟨_, rfl⟩
    have hday : dayN yr r1 1 = a0 := by rw [← ha0, Mo, hyr2, hr12]
    refine call_go hO hX (cday_fn yb (by omega) (by omega) hday) (by kernel_rfl) [] rfl trivial rfl ?_
    rintro _ _ ⟨rfl, rfl⟩
    cbv
    refine call_go hO hX (monthsC_fn hP2 hL2) (by kernel_rfl) [] rfl trivial rfl ?_
    rintro _ _ ⟨rfl, rfl⟩
    cbv
    obtain ⟨b0, hb0⟩ : ∃ b, Mo (k + 1) = b := ⟨_, rfl⟩
    have hsm := span_mon (k := k) (by omega) (by omega)
    rw [ha0, hb0, hP2, hL2] at hsm
    refine call_go hO hX (span_fn (by omega) (by omega) hsm) (by kernel_rfl) [4] rfl ⟨rfl, rfl, trivial⟩ rfl ?_
    rintro _ _ ⟨rfl, rfl⟩
    clear hsm
    cbv
    repeat ((first | rw [M1] | rw [M2] | rw [W1] | rw [W2] | rw [E00] | rw [E20] | rw [E22] | rw [N1] | rw [N0] | rw [B11] | rw [B00] | rw [A11] | rw [Ea] | rw [Eb] | rw [Ec] | rw [Ed] | rw [Ewb] | rw [Ewd]); (repeat (first | rw [M1] | rw [M2] | rw [W1] | rw [W2] | rw [E00] | rw [E20] | rw [E22] | rw [N1] | rw [N0] | rw [B11] | rw [B00] | rw [A11] | rw [Ea] | rw [Eb] | rw [Ec] | rw [Ed] | rw [Ewb] | rw [Ewd])); cbv)
    rw [hr1]
    refine ⟨inr_mk hO (by omega) (by omega), ?_⟩
    obtain ⟨ln, hln⟩ : ∃ ln, lenM yr r1 = ln := ⟨_, rfl⟩
    have hnx : O .add a0 ln = b0 := by rw [add_e hO, ← ha0, ← hb0, ← hln, mo_succ (t := k) (by rw [← hyr2]; exact yb), hyr2, hr12]
    refine call_go hO hX (clen_fn yb (by omega) (by omega) hln) (by kernel_rfl) [] rfl trivial rfl ?_
    rintro _ _ ⟨rfl, rfl⟩
    cbv
    rw [hnx]
    have ma : -800000 ≤ a0 ∧ a0 ≤ 3000000 := by rw [← ha0]; exact mo_bd (by omega) (by omega)
    have mb : -800000 ≤ b0 ∧ b0 ≤ 3000000 := by rw [← hb0]; exact mo_bd (by omega) (by omega)
    refine ⟨inr_mk hO (by omega) (by omega), ?_⟩
    have Ea : O .eq a0 a0 = true := by subst hO; simp [std]
    have Eb : O .eq b0 b0 = true := by subst hO; simp [std]
    repeat ((first | rw [M1] | rw [M2] | rw [W1] | rw [W2] | rw [E00] | rw [E20] | rw [E22] | rw [N1] | rw [N0] | rw [B11] | rw [B00] | rw [A11] | rw [Ea] | rw [Eb] | rw [Ec] | rw [Ed] | rw [Ewb] | rw [Ewd]); (repeat (first | rw [M1] | rw [M2] | rw [W1] | rw [W2] | rw [E00] | rw [E20] | rw [E22] | rw [N1] | rw [N0] | rw [B11] | rw [B00] | rw [A11] | rw [Ea] | rw [Eb] | rw [Ec] | rw [Ed] | rw [Ewb] | rw [Ewd])); cbv)
    obtain ⟨c0, hc0⟩ : ∃ c, Mo (f + 12 * (k / 12)) = c := ⟨_, rfl⟩
    obtain ⟨d0, hd0⟩ : ∃ c, Mo (f + 12 * (k / 12 + 1)) = c := ⟨_, rfl⟩
    obtain ⟨y1, hy1⟩ : ∃ y1, O .add yr 1 = y1 := ⟨_, rfl⟩
    obtain ⟨ys, hys⟩ : ∃ ys, O .sub yr 1970 = ys := ⟨_, rfl⟩
    have hy12 : y1 = 1970 + (k / 12 + 1) := by rw [← hy1, add_e hO]; omega
    have hys2 : ys = k / 12 := by rw [← hys, sub_e hO]; omega
    have hdd1 : dayN yr mo 1 = c0 := by
      have := mo_parts (k / 12) hm.1 hm.2
      rw [hyr2, ← this, ← hc0, show 12 * (k / 12) + (mo - 1) = f + 12 * (k / 12) by omega]
    have hdd2 : dayN y1 mo 1 = d0 := by
      have := mo_parts (k / 12 + 1) hm.1 hm.2
      rw [hy12, ← this, ← hd0, show 12 * (k / 12 + 1) + (mo - 1) = f + 12 * (k / 12 + 1) by omega]
    have hsy := span_years hf1 (k := k / 12) (by omega) (by omega)
    rw [ho1, hP1, hL1, hc0, hd0, ← hys2] at hsy
    clear hc0 hd0
    refine call_go hO hX (cday_fn yb hm.1 hm.2 hdd1) (by kernel_rfl) [] rfl trivial rfl ?_
    rintro _ _ ⟨rfl, rfl⟩
    cbv
    rw [hy1]
    refine ⟨inr_mk hO (by omega) (by omega), ?_⟩
    refine call_go hO hX (cday_fn (yearB_iff.2 (by omega)) hm.1 hm.2 hdd2) (by kernel_rfl) [] rfl trivial rfl ?_
    rintro _ _ ⟨rfl, rfl⟩
    cbv
    rw [hys]
    refine ⟨inr_mk hO (by omega) (by omega), ?_⟩
    refine call_go hO hX (span_fn (by omega) (by omega) hsy) (by kernel_rfl) [0] rfl ⟨rfl, rfl, trivial⟩ rfl ?_
    rintro _ _ ⟨rfl, rfl⟩
    clear hsy
    have Ec : O .eq c0 c0 = true := by subst hO; simp [std]
    have Ed : O .eq d0 d0 = true := by subst hO; simp [std]
    cbv
    repeat ((first | rw [M1] | rw [M2] | rw [W1] | rw [W2] | rw [E00] | rw [E20] | rw [E22] | rw [N1] | rw [N0] | rw [B11] | rw [B00] | rw [A11] | rw [Ea] | rw [Eb] | rw [Ec] | rw [Ed] | rw [Ewb] | rw [Ewd]); (repeat (first | rw [M1] | rw [M2] | rw [W1] | rw [W2] | rw [E00] | rw [E20] | rw [E22] | rw [N1] | rw [N0] | rw [B11] | rw [B00] | rw [A11] | rw [Ea] | rw [Eb] | rw [Ec] | rw [Ed] | rw [Ewb] | rw [Ewd])); cbv)
    obtain ⟨wa, hwa⟩ : ∃ x, 7 * k + v' = x := ⟨_, rfl⟩
    obtain ⟨wb, hwb⟩ : ∃ x, 7 * k + v' + 7 = x := ⟨_, rfl⟩
    have hsw : spanF v' 7 [(0, 7)] k = wa ∧ spanT v' 7 [(0, 7)] k = wb ∧ spanE v' 7 [(0, 7)] k = 0 := by
      have := weeks_at v k
      rw [hv'] at this
      have hV := weeks_vd (v := v) (by omega) (by omega)
      rw [hv'] at hV
      exact span_of hV k _ _ (by rw [this.1]; omega) (by rw [this.2]; omega) (by omega) (by omega)
    have hfi : findB v' 7 [(0, 7)] 0 = true ∧ findN v' 7 [(0, 7)] 0 = 0 := by
      have := weeks_at v 0
      rw [hv'] at this
      have hV := weeks_vd (v := v) (by omega) (by omega)
      rw [hv'] at hV
      have h := find_in (k := 0) (x := 0) hV.back (lineB_iff.2 (by omega)) (by rw [this.1]; omega) (by rw [this.2]; omega)
      exact ⟨h.1, h.2.1⟩
    refine call_go hO hX (span_fn (by omega) (by omega) hsw) (by kernel_rfl) [2] rfl ⟨rfl, rfl, trivial⟩ rfl ?_
    rintro _ _ ⟨rfl, rfl⟩
    clear hsw
    cbv
    refine call_go hO hX (find_fn hfi) (by kernel_rfl) [2] rfl ⟨rfl, rfl, trivial⟩ rfl ?_
    rintro _ _ ⟨rfl, rfl⟩
    clear hfi
    cbv
    have Ewb : O .eq wb (O .add wa 7) = true := by subst hO; simp [std]; omega
    have Ewd : O .eq wd wd = true := by subst hO; simp [std]
    repeat ((first | rw [M1] | rw [M2] | rw [W1] | rw [W2] | rw [E00] | rw [E20] | rw [E22] | rw [N1] | rw [N0] | rw [B11] | rw [B00] | rw [A11] | rw [Ea] | rw [Eb] | rw [Ec] | rw [Ed] | rw [Ewb] | rw [Ewd]); (repeat (first | rw [M1] | rw [M2] | rw [W1] | rw [W2] | rw [E00] | rw [E20] | rw [E22] | rw [N1] | rw [N0] | rw [B11] | rw [B00] | rw [A11] | rw [Ea] | rw [Eb] | rw [Ec] | rw [Ed] | rw [Ewb] | rw [Ewd])); cbv)
    refine ⟨inr_mk hO (by rw [add_e hO]; omega) (by rw [add_e hO]; omega), ?_⟩
    repeat ((first | rw [M1] | rw [M2] | rw [W1] | rw [W2] | rw [E00] | rw [E20] | rw [E22] | rw [N1] | rw [N0] | rw [B11] | rw [B00] | rw [A11] | rw [Ea] | rw [Eb] | rw [Ec] | rw [Ed] | rw [Ewb] | rw [Ewd]); (repeat (first | rw [M1] | rw [M2] | rw [W1] | rw [W2] | rw [E00] | rw [E20] | rw [E22] | rw [N1] | rw [N0] | rw [B11] | rw [B00] | rw [A11] | rw [Ea] | rw [Eb] | rw [Ec] | rw [Ed] | rw [Ewb] | rw [Ewd])); cbv)
    refine call_go hO hX (cweekday_fn (d := wa) (v := wd) (by omega) (by omega) (by omega)) (by kernel_rfl) [] rfl trivial rfl ?_
    rintro _ _ ⟨rfl, rfl⟩
    cbv
    repeat ((first | rw [M1] | rw [M2] | rw [W1] | rw [W2] | rw [E00] | rw [E20] | rw [E22] | rw [N1] | rw [N0] | rw [B11] | rw [B00] | rw [A11] | rw [Ea] | rw [Eb] | rw [Ec] | rw [Ed] | rw [Ewb] | rw [Ewd]); (repeat (first | rw [M1] | rw [M2] | rw [W1] | rw [W2] | rw [E00] | rw [E20] | rw [E22] | rw [N1] | rw [N0] | rw [B11] | rw [B00] | rw [A11] | rw [Ea] | rw [Eb] | rw [Ec] | rw [Ed] | rw [Ewb] | rw [Ewd])); cbv)
    exact fin_plain hX rfl rfl (by cbv) ⟨rfl, rfl⟩
  · rename_i c5
    have c6 := lt_f hO c5
    cbv
    obtain ⟨yr, hyr⟩ : ∃ yr, O .add 1970 q = yr := ⟨_, rfl⟩
    rw [hyr]
    have hyr2 : yr = 1970 + k / 12 := by rw [← hyr, add_e hO]; omega
    have hrs2 : r = k % 12 := by omega
    obtain ⟨r1, hr1⟩ : ∃ r1, O .add r 1 = r1 := ⟨_, rfl⟩
    have hr12 : r1 = k % 12 + 1 := by rw [← hr1, add_e hO]; omega
    rw [hr1]
    refine ⟨inr_mk hO (by omega) (by omega), ?_⟩
    have yb : yearB yr = true := yearB_iff.2 (by omega)
    obtain ⟨a0, ha0⟩ : ∃ a, Mo k = a := ⟨_, rfl⟩
    have hday : dayN yr r1 1 = a0 := by rw [← ha0, Mo, hyr2, hr12]
    refine call_go hO hX (cday_fn yb (by omega) (by omega) hday) (by kernel_rfl) [] rfl trivial rfl ?_
    rintro _ _ ⟨rfl, rfl⟩
    cbv
    refine call_go hO hX (monthsC_fn hP2 hL2) (by kernel_rfl) [] rfl trivial rfl ?_
    rintro _ _ ⟨rfl, rfl⟩
    cbv
    obtain ⟨b0, hb0⟩ : ∃ b, Mo (k + 1) = b := ⟨_, rfl⟩
    have hsm := span_mon (k := k) (by omega) (by omega)
    rw [ha0, hb0, hP2, hL2] at hsm
    refine call_go hO hX (span_fn (by omega) (by omega) hsm) (by kernel_rfl) [4] rfl ⟨rfl, rfl, trivial⟩ rfl ?_
    rintro _ _ ⟨rfl, rfl⟩
    clear hsm
    cbv
    repeat ((first | rw [M1] | rw [M2] | rw [W1] | rw [W2] | rw [E00] | rw [E20] | rw [E22] | rw [N1] | rw [N0] | rw [B11] | rw [B00] | rw [A11] | rw [Ea] | rw [Eb] | rw [Ec] | rw [Ed] | rw [Ewb] | rw [Ewd]); (repeat (first | rw [M1] | rw [M2] | rw [W1] | rw [W2] | rw [E00] | rw [E20] | rw [E22] | rw [N1] | rw [N0] | rw [B11] | rw [B00] | rw [A11] | rw [Ea] | rw [Eb] | rw [Ec] | rw [Ed] | rw [Ewb] | rw [Ewd])); cbv)
    rw [hr1]
    refine ⟨inr_mk hO (by omega) (by omega), ?_⟩
    obtain ⟨ln, hln⟩ : ∃ ln, lenM yr r1 = ln := ⟨_, rfl⟩
    have hnx : O .add a0 ln = b0 := by rw [add_e hO, ← ha0, ← hb0, ← hln, mo_succ (t := k) (by rw [← hyr2]; exact yb), hyr2, hr12]
    refine call_go hO hX (clen_fn yb (by omega) (by omega) hln) (by kernel_rfl) [] rfl trivial rfl ?_
    rintro _ _ ⟨rfl, rfl⟩
    cbv
    rw [hnx]
    have ma : -800000 ≤ a0 ∧ a0 ≤ 3000000 := by rw [← ha0]; exact mo_bd (by omega) (by omega)
    have mb : -800000 ≤ b0 ∧ b0 ≤ 3000000 := by rw [← hb0]; exact mo_bd (by omega) (by omega)
    refine ⟨inr_mk hO (by omega) (by omega), ?_⟩
    have Ea : O .eq a0 a0 = true := by subst hO; simp [std]
    have Eb : O .eq b0 b0 = true := by subst hO; simp [std]
    repeat ((first | rw [M1] | rw [M2] | rw [W1] | rw [W2] | rw [E00] | rw [E20] | rw [E22] | rw [N1] | rw [N0] | rw [B11] | rw [B00] | rw [A11] | rw [Ea] | rw [Eb] | rw [Ec] | rw [Ed] | rw [Ewb] | rw [Ewd]); (repeat (first | rw [M1] | rw [M2] | rw [W1] | rw [W2] | rw [E00] | rw [E20] | rw [E22] | rw [N1] | rw [N0] | rw [B11] | rw [B00] | rw [A11] | rw [Ea] | rw [Eb] | rw [Ec] | rw [Ed] | rw [Ewb] | rw [Ewd])); cbv)
    obtain ⟨c0, hc0⟩ : ∃ c, Mo (f + 12 * (k / 12)) = c := ⟨_, rfl⟩
    obtain ⟨d0, hd0⟩ : ∃ c, Mo (f + 12 * (k / 12 + 1)) = c := ⟨_, rfl⟩
    obtain ⟨y1, hy1⟩ : ∃ y1, O .add yr 1 = y1 := ⟨_, rfl⟩
    obtain ⟨ys, hys⟩ : ∃ ys, O .sub yr 1970 = ys := ⟨_, rfl⟩
    have hy12 : y1 = 1970 + (k / 12 + 1) := by rw [← hy1, add_e hO]; omega
    have hys2 : ys = k / 12 := by rw [← hys, sub_e hO]; omega
    have hdd1 : dayN yr mo 1 = c0 := by
      have := mo_parts (k / 12) hm.1 hm.2
      rw [hyr2, ← this, ← hc0, show 12 * (k / 12) + (mo - 1) = f + 12 * (k / 12) by omega]
    have hdd2 : dayN y1 mo 1 = d0 := by
      have := mo_parts (k / 12 + 1) hm.1 hm.2
      rw [hy12, ← this, ← hd0, show 12 * (k / 12 + 1) + (mo - 1) = f + 12 * (k / 12 + 1) by omega]
    have hsy := span_years hf1 (k := k / 12) (by omega) (by omega)
    rw [ho1, hP1, hL1, hc0, hd0, ← hys2] at hsy
    clear hc0 hd0
    refine call_go hO hX (cday_fn yb hm.1 hm.2 hdd1) (by kernel_rfl) [] rfl trivial rfl ?_
    rintro _ _ ⟨rfl, rfl⟩
    cbv
    rw [hy1]
    refine ⟨inr_mk hO (by omega) (by omega), ?_⟩
    refine call_go hO hX (cday_fn (yearB_iff.2 (by omega)) hm.1 hm.2 hdd2) (by kernel_rfl) [] rfl trivial rfl ?_
    rintro _ _ ⟨rfl, rfl⟩
    cbv
    rw [hys]
    refine ⟨inr_mk hO (by omega) (by omega), ?_⟩
    refine call_go hO hX (span_fn (by omega) (by omega) hsy) (by kernel_rfl) [0] rfl ⟨rfl, rfl, trivial⟩ rfl ?_
    rintro _ _ ⟨rfl, rfl⟩
    clear hsy
    have Ec : O .eq c0 c0 = true := by subst hO; simp [std]
    have Ed : O .eq d0 d0 = true := by subst hO; simp [std]
    cbv
    repeat ((first | rw [M1] | rw [M2] | rw [W1] | rw [W2] | rw [E00] | rw [E20] | rw [E22] | rw [N1] | rw [N0] | rw [B11] | rw [B00] | rw [A11] | rw [Ea] | rw [Eb] | rw [Ec] | rw [Ed] | rw [Ewb] | rw [Ewd]); (repeat (first | rw [M1] | rw [M2] | rw [W1] | rw [W2] | rw [E00] | rw [E20] | rw [E22] | rw [N1] | rw [N0] | rw [B11] | rw [B00] | rw [A11] | rw [Ea] | rw [Eb] | rw [Ec] | rw [Ed] | rw [Ewb] | rw [Ewd])); cbv)
    obtain ⟨wa, hwa⟩ : ∃ x, 7 * k + v' = x := ⟨_, rfl⟩
    obtain ⟨wb, hwb⟩ : ∃ x, 7 * k + v' + 7 = x := ⟨_, rfl⟩
    have hsw : spanF v' 7 [(0, 7)] k = wa ∧ spanT v' 7 [(0, 7)] k = wb ∧ spanE v' 7 [(0, 7)] k = 0 := by
      have := weeks_at v k
      rw [hv'] at this
      have hV := weeks_vd (v := v) (by omega) (by omega)
      rw [hv'] at hV
      exact span_of hV k _ _ (by rw [this.1]; omega) (by rw [this.2]; omega) (by omega) (by omega)
    have hfi : findB v' 7 [(0, 7)] 0 = true ∧ findN v' 7 [(0, 7)] 0 = 0 := by
      have := weeks_at v 0
      rw [hv'] at this
      have hV := weeks_vd (v := v) (by omega) (by omega)
      rw [hv'] at hV
      have h := find_in (k := 0) (x := 0) hV.back (lineB_iff.2 (by omega)) (by rw [this.1]; omega) (by rw [this.2]; omega)
      exact ⟨h.1, h.2.1⟩
    refine call_go hO hX (span_fn (by omega) (by omega) hsw) (by kernel_rfl) [2] rfl ⟨rfl, rfl, trivial⟩ rfl ?_
    rintro _ _ ⟨rfl, rfl⟩
    clear hsw
    cbv
    refine call_go hO hX (find_fn hfi) (by kernel_rfl) [2] rfl ⟨rfl, rfl, trivial⟩ rfl ?_
    rintro _ _ ⟨rfl, rfl⟩
    clear hfi
    cbv
    have Ewb : O .eq wb (O .add wa 7) = true := by subst hO; simp [std]; omega
    have Ewd : O .eq wd wd = true := by subst hO; simp [std]
    repeat ((first | rw [M1] | rw [M2] | rw [W1] | rw [W2] | rw [E00] | rw [E20] | rw [E22] | rw [N1] | rw [N0] | rw [B11] | rw [B00] | rw [A11] | rw [Ea] | rw [Eb] | rw [Ec] | rw [Ed] | rw [Ewb] | rw [Ewd]); (repeat (first | rw [M1] | rw [M2] | rw [W1] | rw [W2] | rw [E00] | rw [E20] | rw [E22] | rw [N1] | rw [N0] | rw [B11] | rw [B00] | rw [A11] | rw [Ea] | rw [Eb] | rw [Ec] | rw [Ed] | rw [Ewb] | rw [Ewd])); cbv)
    refine ⟨inr_mk hO (by rw [add_e hO]; omega) (by rw [add_e hO]; omega), ?_⟩
    repeat ((first | rw [M1] | rw [M2] | rw [W1] | rw [W2] | rw [E00] | rw [E20] | rw [E22] | rw [N1] | rw [N0] | rw [B11] | rw [B00] | rw [A11] | rw [Ea] | rw [Eb] | rw [Ec] | rw [Ed] | rw [Ewb] | rw [Ewd]); (repeat (first | rw [M1] | rw [M2] | rw [W1] | rw [W2] | rw [E00] | rw [E20] | rw [E22] | rw [N1] | rw [N0] | rw [B11] | rw [B00] | rw [A11] | rw [Ea] | rw [Eb] | rw [Ec] | rw [Ed] | rw [Ewb] | rw [Ewd])); cbv)
    refine call_go hO hX (cweekday_fn (d := wa) (v := wd) (by omega) (by omega) (by omega)) (by kernel_rfl) [] rfl trivial rfl ?_
    rintro _ _ ⟨rfl, rfl⟩
    cbv
    repeat ((first | rw [M1] | rw [M2] | rw [W1] | rw [W2] | rw [E00] | rw [E20] | rw [E22] | rw [N1] | rw [N0] | rw [B11] | rw [B00] | rw [A11] | rw [Ea] | rw [Eb] | rw [Ec] | rw [Ed] | rw [Ewb] | rw [Ewd]); (repeat (first | rw [M1] | rw [M2] | rw [W1] | rw [W2] | rw [E00] | rw [E20] | rw [E22] | rw [N1] | rw [N0] | rw [B11] | rw [B00] | rw [A11] | rw [Ea] | rw [Eb] | rw [Ec] | rw [Ed] | rw [Ewb] | rw [Ewd])); cbv)
    exact fin_plain hX rfl rfl (by cbv) ⟨rfl, rfl⟩

set_option maxHeartbeats 40000000 in
theorem civil_y0 {k n : Int} (hk1 : -9223372036854775808 ≤ k) (hk2 : k ≤ 9223372036854775807) (hn : 0 ≤ n ∧ n ≤ 255) (hm : 1 ≤ n % 14 ∧ n % 14 ≤ 12) (hw : n % 9 = 0) : Fn Try.prog 10 [.c (.int .i64 k), .c (.int .u8 n)] [] (fun v c => v = .c (.bool true) ∧ c = []) := by
  refine fn_run tab_holds eqs_holds mixed [(15, [(1, [0, 1, 2, 3, 4, 5, 6, 7, 8, 9, 10, 11, 12]), (2, [13]), (1, [14, 15, 16, 17])], [])] Try.func10 (by kernel_rfl) (by kernel_rfl) (by decide) ?_
  intro O X hO hX
  cbv
  refine call_go hO hX awake_fn (by kernel_rfl) [] rfl trivial rfl ?_
  rintro _ _ ⟨rfl, rfl⟩
  cbv
  rw [(not_lit hO).1]
  cbv
  obtain ⟨mo, hmo⟩ : ∃ mo, O .rem n 14 = mo := ⟨_, rfl⟩
  obtain ⟨wd, hwd⟩ : ∃ wd, O .rem n 9 = wd := ⟨_, rfl⟩
  rw [hmo, hwd]
  have hmo1 : 0 ≤ mo ∧ mo ≤ 13 := by rw [← hmo, rem_e hO, Int.tmod_eq_emod_of_nonneg hn.1]; omega
  have hwd1 : 0 ≤ wd ∧ wd ≤ 8 := by rw [← hwd, rem_e hO, Int.tmod_eq_emod_of_nonneg hn.1]; omega
  have hmoe : n % 14 = mo := by rw [← hmo, rem_e hO, Int.tmod_eq_emod_of_nonneg hn.1]
  have hwde : n % 9 = wd := by rw [← hwd, rem_e hO, Int.tmod_eq_emod_of_nonneg hn.1]
  clear hmo hwd
  rw [hmoe] at hm
  rw [hwde] at hw
  have E00 : O .eq 0 0 = true := by subst hO; rfl
  have E20 : O .eq 2 0 = false := by subst hO; rfl
  have E22 : O .eq 2 2 = true := by subst hO; rfl
  have N1 := (not_lit hO).1
  have N0 := (not_lit hO).2
  have B11 : O .beq true true = true := by subst hO; rfl
  have B00 : O .beq false false = true := by subst hO; rfl
  have A11 : O .and true true = true := by subst hO; rfl
  refine ⟨inr_mk hO (by omega) (by omega), nz_mk hO (by omega), inr_mk hO (by omega) (by omega), nz_mk hO (by omega), ?_⟩
  obtain ⟨P2, hP2⟩ : ∃ P, ofP monP monS = P := ⟨_, rfl⟩
  obtain ⟨L2, hL2⟩ : ∃ L, ofL monP monS = L := ⟨_, rfl⟩
  have M1 : O .le 1 mo = true := by subst hO; simp [std]; omega
  have M2 : O .le mo 12 = true := by subst hO; simp [std]; omega
  obtain ⟨f, hf⟩ : ∃ f : Nat, (mo - 1).toNat = f := ⟨_, rfl⟩
  have hf1 : f ≤ 11 := by omega
  have hmf : mo = f + 1 := by omega
  obtain ⟨P1, hP1⟩ : ∃ P, ofP 146097 (yeS f) = P := ⟨_, rfl⟩
  obtain ⟨L1, hL1⟩ : ∃ L, ofL 146097 (yeS f) = L := ⟨_, rfl⟩
  obtain ⟨o1, ho1⟩ : ∃ o, Mo f = o := ⟨_, rfl⟩
  have hy := years_fn (first := mo) (o := o1) (P := P1) (L := L1) hm.1 hm.2 (by rw [hf, ← ho1]; exact mon_psum f (by omega)) (by rw [hf]; exact years_ok hf1) (by rw [hf, years_per hf1]; omega) (by rw [hf, years_per hf1]; exact hP1) (by rw [hf, years_per hf1]; exact hL1)
  refine call_go hO hX hy (by kernel_rfl) [] rfl trivial rfl ?_
  rintro _ _ ⟨rfl, rfl⟩
  cbv
  have W1 : O .le 1 wd = false := by subst hO; simp [std]; omega
  refine call_go hO hX (weeks_no (first := wd) (by omega)) (by kernel_rfl) [] rfl trivial rfl ?_
  rintro _ _ ⟨rfl, rfl⟩
  cbv
  repeat ((first | rw [M1] | rw [M2] | rw [W1] | rw [W2] | rw [E00] | rw [E20] | rw [E22] | rw [N1] | rw [N0] | rw [B11] | rw [B00] | rw [A11] | rw [Ea] | rw [Eb] | rw [Ec] | rw [Ed] | rw [Ewb] | rw [Ewd]); (repeat (first | rw [M1] | rw [M2] | rw [W1] | rw [W2] | rw [E00] | rw [E20] | rw [E22] | rw [N1] | rw [N0] | rw [B11] | rw [B00] | rw [A11] | rw [Ea] | rw [Eb] | rw [Ec] | rw [Ed] | rw [Ewb] | rw [Ewd])); cbv)
  split
  · rename_i c1
    cbv
    exact fin_plain hX rfl rfl (by cbv) ⟨rfl, rfl⟩
  rename_i c1
  have c2 := lt_f hO c1
  cbv
  split
  · rename_i c3
    cbv
    exact fin_plain hX rfl rfl (by cbv) ⟨rfl, rfl⟩
  rename_i c3
  have c4 := le_f hO c3
  cbv
  obtain ⟨q, hq⟩ : ∃ q, O .quo k 12 = q := ⟨_, rfl⟩
  obtain ⟨r, hr⟩ : ∃ r, O .rem k 12 = r := ⟨_, rfl⟩
  rw [hq, hr]
  rw [quo_e hO] at hq
  rw [rem_e hO] at hr
  have hqr := tq_parts k
  rw [hq, hr] at hqr
  refine ⟨nz_mk hO (by omega), inr_mk hO (by omega) (by omega), inr_mk hO (by rw [add_e hO]; omega) (by rw [add_e hO]; omega), nz_mk hO (by omega), ?_⟩
  split
  · rename_i c5
    have c6 := lt_t hO c5
    cbv
    obtain ⟨yr, hyr⟩ : ∃ yr, O .sub (O .add 1970 q) 1 = yr := ⟨_, rfl⟩
    obtain ⟨rs, hrs⟩ : ∃ rs, O .add r 12 = rs := ⟨_, rfl⟩
    rw [hyr, hrs]
    have hyr2 : yr = 1970 + k / 12 := by rw [← hyr, sub_e hO, add_e hO]; omega
    have hrs2 : rs = k % 12 := by rw [← hrs, add_e hO]; omega
    refine ⟨inr_mk hO (by omega) (by omega), inr_mk hO (by omega) (by omega), ?_⟩
    obtain ⟨r1, hr1⟩ : ∃ r1, O .add rs 1 = r1 := ⟨_, rfl⟩
    have hr12 : r1 = k % 12 + 1 := by rw [← hr1, add_e hO]; omega
    rw [hr1]
    refine ⟨inr_mk hO (by omega) (by omega), ?_⟩
    have yb : yearB yr = true := yearB_iff.2 (by omega)
    obtain ⟨a0, ha0⟩ : ∃ a, Mo k = a := ⟨_, rfl⟩
    have hday : dayN yr r1 1 = a0 := by rw [← ha0, Mo, hyr2, hr12]
    refine call_go hO hX (cday_fn yb (by omega) (by omega) hday) (by kernel_rfl) [] rfl trivial rfl ?_
    rintro _ _ ⟨rfl, rfl⟩
    cbv
    refine call_go hO hX (monthsC_fn hP2 hL2) (by kernel_rfl) [] rfl trivial rfl ?_
    rintro _ _ ⟨rfl, rfl⟩
    cbv
    obtain ⟨b0, hb0⟩ : ∃ b, Mo (k + 1) = b := ⟨_, rfl⟩
    have hsm := span_mon (k := k) (by omega) (by omega)
    rw [ha0, hb0, hP2, hL2] at hsm
    refine call_go hO hX (span_fn (by omega) (by omega) hsm) (by kernel_rfl) [3] rfl ⟨rfl, rfl, trivial⟩ rfl ?_
    rintro _ _ ⟨rfl, rfl⟩
    clear hsm
    cbv
    repeat ((first | rw [M1] | rw [M2] | rw [W1] | rw [W2] | rw [E00] | rw [E20] | rw [E22] | rw [N1] | rw [N0] | rw [B11] | rw [B00] | rw [A11] | rw [Ea] | rw [Eb] | rw [Ec] | rw [Ed] | rw [Ewb] | rw [Ewd]); (repeat (first | rw [M1] | rw [M2] | rw [W1] | rw [W2] | rw [E00] | rw [E20] | rw [E22] | rw [N1] | rw [N0] | rw [B11] | rw [B00] | rw [A11] | rw [Ea] | rw [Eb] | rw [Ec] | rw [Ed] | rw [Ewb] | rw [Ewd])); cbv)
    rw [hr1]
    refine ⟨inr_mk hO (by omega) (by omega), ?_⟩
    obtain ⟨ln, hln⟩ : ∃ ln, lenM yr r1 = ln := ⟨_, rfl⟩
    have hnx : O .add a0 ln = b0 := by rw [add_e hO, ← ha0, ← hb0, ← hln, mo_succ (t := k) (by rw [← hyr2]; exact yb), hyr2, hr12]
    refine call_go hO hX (clen_fn yb (by omega) (by omega) hln) (by kernel_rfl) [] rfl trivial rfl ?_
    rintro _ _ ⟨rfl, rfl⟩
    cbv
    rw [hnx]
    have ma : -800000 ≤ a0 ∧ a0 ≤ 3000000 := by rw [← ha0]; exact mo_bd (by omega) (by omega)
    have mb : -800000 ≤ b0 ∧ b0 ≤ 3000000 := by rw [← hb0]; exact mo_bd (by omega) (by omega)
    refine ⟨inr_mk hO (by omega) (by omega), ?_⟩
    have Ea : O .eq a0 a0 = true := by subst hO; simp [std]
    have Eb : O .eq b0 b0 = true := by subst hO; simp [std]
    repeat ((first | rw [M1] | rw [M2] | rw [W1] | rw [W2] | rw [E00] | rw [E20] | rw [E22] | rw [N1] | rw [N0] | rw [B11] | rw [B00] | rw [A11] | rw [Ea] | rw [Eb] | rw [Ec] | rw [Ed] | rw [Ewb] | rw [Ewd]); (repeat (first | rw [M1] | rw [M2] | rw [W1] | rw [W2] | rw [E00] | rw [E20] | rw [E22] | rw [N1] | rw [N0] | rw [B11] | rw [B00] | rw [A11] | rw [Ea] | rw [Eb] | rw [Ec] | rw [Ed] | rw [Ewb] | rw [Ewd])); cbv)
    obtain ⟨c0, hc0⟩ : ∃ c, Mo (f + 12 * (k / 12)) = c := ⟨_, rfl⟩
    obtain ⟨d0, hd0⟩ : ∃ c, Mo (f + 12 * (k / 12 + 1)) = c := ⟨_, rfl⟩
    obtain ⟨y1, hy1⟩ : ∃ y1, O .add yr 1 = y1 := ⟨_, rfl⟩
    obtain ⟨ys, hys⟩ : ∃ ys, O .sub yr 1970 = ys := ⟨_, rfl⟩
    have hy12 : y1 = 1970 + (k / 12 + 1) := by rw [← hy1, add_e hO]; omega
    have hys2 : ys = k / 12 := by rw [← hys, sub_e hO]; omega
    have hdd1 : dayN yr mo 1 = c0 := by
      have := mo_parts (k / 12) hm.1 hm.2
      rw [hyr2, ← this, ← hc0, show 12 * (k / 12) + (mo - 1) = f + 12 * (k / 12) by omega]
    have hdd2 : dayN y1 mo 1 = d0 := by
      have := mo_parts (k / 12 + 1) hm.1 hm.2
      rw [hy12, ← this, ← hd0, show 12 * (k / 12 + 1) + (mo - 1) = f + 12 * (k / 12 + 1) by omega]
    have hsy := span_years hf1 (k := k / 12) (by omega) (by omega)
    rw [ho1, hP1, hL1, hc0, hd0, ← hys2] at hsy
    clear hc0 hd0
    refine call_go hO hX (cday_fn yb hm.1 hm.2 hdd1) (by kernel_rfl) [] rfl trivial rfl ?_
    rintro _ _ ⟨rfl, rfl⟩
    cbv
    rw [hy1]
    refine ⟨inr_mk hO (by omega) (by omega), ?_⟩
    refine call_go hO hX (cday_fn (yearB_iff.2 (by omega)) hm.1 hm.2 hdd2) (by kernel_rfl) [] rfl trivial rfl ?_
    rintro _ _ ⟨rfl, rfl⟩
    cbv
    rw [hys]
    refine ⟨inr_mk hO (by omega) (by omega), ?_⟩
    refine call_go hO hX (span_fn (by omega) (by omega) hsy) (by kernel_rfl) [0] rfl ⟨rfl, rfl, trivial⟩ rfl ?_
    rintro _ _ ⟨rfl, rfl⟩
    clear hsy
    have Ec : O .eq c0 c0 = true := by subst hO; simp [std]
    have Ed : O .eq d0 d0 = true := by subst hO; simp [std]
    cbv
    repeat ((first | rw [M1] | rw [M2] | rw [W1] | rw [W2] | rw [E00] | rw [E20] | rw [E22] | rw [N1] | rw [N0] | rw [B11] | rw [B00] | rw [A11] | rw [Ea] | rw [Eb] | rw [Ec] | rw [Ed] | rw [Ewb] | rw [Ewd]); (repeat (first | rw [M1] | rw [M2] | rw [W1] | rw [W2] | rw [E00] | rw [E20] | rw [E22] | rw [N1] | rw [N0] | rw [B11] | rw [B00] | rw [A11] | rw [Ea] | rw [Eb] | rw [Ec] | rw [Ed] | rw [Ewb] | rw [Ewd])); cbv)
    exact fin_plain hX rfl rfl (by cbv) ⟨rfl, rfl⟩
  · rename_i c5
    have c6 := lt_f hO c5
    cbv
    obtain ⟨yr, hyr⟩ : ∃ yr, O .add 1970 q = yr := ⟨_, rfl⟩
    rw [hyr]
    have hyr2 : yr = 1970 + k / 12 := by rw [← hyr, add_e hO]; omega
    have hrs2 : r = k % 12 := by omega
    obtain ⟨r1, hr1⟩ : ∃ r1, O .add r 1 = r1 := ⟨_, rfl⟩
    have hr12 : r1 = k % 12 + 1 := by rw [← hr1, add_e hO]; omega
    rw [hr1]
    refine ⟨inr_mk hO (by omega) (by omega), ?_⟩
    have yb : yearB yr = true := yearB_iff.2 (by omega)
    obtain ⟨a0, ha0⟩ : ∃ a, Mo k = a := ⟨_, rfl⟩
    have hday : dayN yr r1 1 = a0 := by rw [← ha0, Mo, hyr2, hr12]
    refine call_go hO hX (cday_fn yb (by omega) (by omega) hday) (by kernel_rfl) [] rfl trivial rfl ?_
    rintro _ _ ⟨rfl, rfl⟩
    cbv
    refine call_go hO hX (monthsC_fn hP2 hL2) (by kernel_rfl) [] rfl trivial rfl ?_
    rintro _ _ ⟨rfl, rfl⟩
    cbv
    obtain ⟨b0, hb0⟩ : ∃ b, Mo (k + 1) = b := ⟨_, rfl⟩
    have hsm := span_mon (k := k) (by omega) (by omega)
    rw [ha0, hb0, hP2, hL2] at hsm
    refine call_go hO hX (span_fn (by omega) (by omega) hsm) (by kernel_rfl) [3] rfl ⟨rfl, rfl, trivial⟩ rfl ?_
    rintro _ _ ⟨rfl, rfl⟩
    clear hsm
    cbv
    repeat ((first | rw [M1] | rw [M2] | rw [W1] | rw [W2] | rw [E00] | rw [E20] | rw [E22] | rw [N1] | rw [N0] | rw [B11] | rw [B00] | rw [A11] | rw [Ea] | rw [Eb] | rw [Ec] | rw [Ed] | rw [Ewb] | rw [Ewd]); (repeat (first | rw [M1] | rw [M2] | rw [W1] | rw [W2] | rw [E00] | rw [E20] | rw [E22] | rw [N1] | rw [N0] | rw [B11] | rw [B00] | rw [A11] | rw [Ea] | rw [Eb] | rw [Ec] | rw [Ed] | rw [Ewb] | rw [Ewd])); cbv)
    rw [hr1]
    refine ⟨inr_mk hO (by omega) (by omega), ?_⟩
    obtain ⟨ln, hln⟩ : ∃ ln, lenM yr r1 = ln := ⟨_, rfl⟩
    have hnx : O .add a0 ln = b0 := by rw [add_e hO, ← ha0, ← hb0, ← hln, mo_succ (t := k) (by rw [← hyr2]; exact yb), hyr2, hr12]
    refine call_go hO hX (clen_fn yb (by omega) (by omega) hln) (by kernel_rfl) [] rfl trivial rfl ?_
    rintro _ _ ⟨rfl, rfl⟩
    cbv
    rw [hnx]
    have ma : -800000 ≤ a0 ∧ a0 ≤ 3000000 := by rw [← ha0]; exact mo_bd (by omega) (by omega)
    have mb : -800000 ≤ b0 ∧ b0 ≤ 3000000 := by rw [← hb0]; exact mo_bd (by omega) (by omega)
    refine ⟨inr_mk hO (by omega) (by omega), ?_⟩
    have Ea : O .eq a0 a0 = true := by subst hO; simp [std]
    have Eb : O .eq b0 b0 = true := by subst hO; simp [std]
    repeat ((first | rw [M1] | rw [M2] | rw [W1] | rw [W2] | rw [E00] | rw [E20] | rw [E22] | rw [N1] | rw [N0] | rw [B11] | rw [B00] | rw [A11] | rw [Ea] | rw [Eb] | rw [Ec] | rw [Ed] | rw [Ewb] | rw [Ewd]); (repeat (first | rw [M1] | rw [M2] | rw [W1] | rw [W2] | rw [E00] | rw [E20] | rw [E22] | rw [N1] | rw [N0] | rw [B11] | rw [B00] | rw [A11] | rw [Ea] | rw [Eb] | rw [Ec] | rw [Ed] | rw [Ewb] | rw [Ewd])); cbv)
    obtain ⟨c0, hc0⟩ : ∃ c, Mo (f + 12 * (k / 12)) = c := ⟨_, rfl⟩
    obtain ⟨d0, hd0⟩ : ∃ c, Mo (f + 12 * (k / 12 + 1)) = c := ⟨_, rfl⟩
    obtain ⟨y1, hy1⟩ : ∃ y1, O .add yr 1 = y1 := ⟨_, rfl⟩
    obtain ⟨ys, hys⟩ : ∃ ys, O .sub yr 1970 = ys := ⟨_, rfl⟩
    have hy12 : y1 = 1970 + (k / 12 + 1) := by rw [← hy1, add_e hO]; omega
    have hys2 : ys = k / 12 := by rw [← hys, sub_e hO]; omega
    have hdd1 : dayN yr mo 1 = c0 := by
      have := mo_parts (k / 12) hm.1 hm.2
      rw [hyr2, ← this, ← hc0, show 12 * (k / 12) + (mo - 1) = f + 12 * (k / 12) by omega]
    have hdd2 : dayN y1 mo 1 = d0 := by
      have := mo_parts (k / 12 + 1) hm.1 hm.2
      rw [hy12, ← this, ← hd0, show 12 * (k / 12 + 1) + (mo - 1) = f + 12 * (k / 12 + 1) by omega]
    have hsy := span_years hf1 (k := k / 12) (by omega) (by omega)
    rw [ho1, hP1, hL1, hc0, hd0, ← hys2] at hsy
    clear hc0 hd0
    refine call_go hO hX (cday_fn yb hm.1 hm.2 hdd1) (by kernel_rfl) [] rfl trivial rfl ?_
    rintro _ _ ⟨rfl, rfl⟩
    cbv
    rw [hy1]
    refine ⟨inr_mk hO (by omega) (by omega), ?_⟩
    refine call_go hO hX (cday_fn (yearB_iff.2 (by omega)) hm.1 hm.2 hdd2) (by kernel_rfl) [] rfl trivial rfl ?_
    rintro _ _ ⟨rfl, rfl⟩
    cbv
    rw [hys]
    refine ⟨inr_mk hO (by omega) (by omega), ?_⟩
    refine call_go hO hX (span_fn (by omega) (by omega) hsy) (by kernel_rfl) [0] rfl ⟨rfl, rfl, trivial⟩ rfl ?_
    rintro _ _ ⟨rfl, rfl⟩
    clear hsy
    have Ec : O .eq c0 c0 = true := by subst hO; simp [std]
    have Ed : O .eq d0 d0 = true := by subst hO; simp [std]
    cbv
    repeat ((first | rw [M1] | rw [M2] | rw [W1] | rw [W2] | rw [E00] | rw [E20] | rw [E22] | rw [N1] | rw [N0] | rw [B11] | rw [B00] | rw [A11] | rw [Ea] | rw [Eb] | rw [Ec] | rw [Ed] | rw [Ewb] | rw [Ewd]); (repeat (first | rw [M1] | rw [M2] | rw [W1] | rw [W2] | rw [E00] | rw [E20] | rw [E22] | rw [N1] | rw [N0] | rw [B11] | rw [B00] | rw [A11] | rw [Ea] | rw [Eb] | rw [Ec] | rw [Ed] | rw [Ewb] | rw [Ewd])); cbv)
    exact fin_plain hX rfl rfl (by cbv) ⟨rfl, rfl⟩

set_option maxHeartbeats 40000000 in
theorem civil_y1 {k n : Int} (hk1 : -9223372036854775808 ≤ k) (hk2 : k ≤ 9223372036854775807) (hn : 0 ≤ n ∧ n ≤ 255) (hm : 1 ≤ n % 14 ∧ n % 14 ≤ 12) (hw : n % 9 = 8) : Fn Try.prog 10 [.c (.int .i64 k), .c (.int .u8 n)] [] (fun v c => v = .c (.bool true) ∧ c = []) := by
  refine fn_run tab_holds eqs_holds mixed [(15, [(1, [0, 1, 2, 3, 4, 5, 6, 7, 8, 9, 10, 11, 12]), (2, [13]), (1, [14, 15, 16, 17])], [])] Try.func10 (by kernel_rfl) (by kernel_rfl) (by decide) ?_
  intro O X hO hX
  cbv
  refine call_go hO hX awake_fn (by kernel_rfl) [] rfl trivial rfl ?_
  rintro _ _ ⟨rfl, rfl⟩
  cbv
  rw [(not_lit hO).1]
  cbv
  obtain ⟨mo, hmo⟩ : ∃ mo, O .rem n 14 = mo := ⟨_, rfl⟩
  obtain ⟨wd, hwd⟩ : ∃ wd, O .rem n 9 = wd := ⟨_, rfl⟩
  rw [hmo, hwd]
  have hmo1 : 0 ≤ mo ∧ mo ≤ 13 := by rw [← hmo, rem_e hO, Int.tmod_eq_emod_of_nonneg hn.1]; omega
  have hwd1 : 0 ≤ wd ∧ wd ≤ 8 := by rw [← hwd, rem_e hO, Int.tmod_eq_emod_of_nonneg hn.1]; omega
  have hmoe : n % 14 = mo := by rw [← hmo, rem_e hO, Int.tmod_eq_emod_of_nonneg hn.1]
  have hwde : n % 9 = wd := by rw [← hwd, rem_e hO, Int.tmod_eq_emod_of_nonneg hn.1]
  clear hmo hwd
  rw [hmoe] at hm
  rw [hwde] at hw
  have E00 : O .eq 0 0 = true := by subst hO; rfl
  have E20 : O .eq 2 0 = false := by subst hO; rfl
  have E22 : O .eq 2 2 = true := by subst hO; rfl
  have N1 := (not_lit hO).1
  have N0 := (not_lit hO).2
  have B11 : O .beq true true = true := by subst hO; rfl
  have B00 : O .beq false false = true := by subst hO; rfl
  have A11 : O .and true true = true := by subst hO; rfl
  refine ⟨inr_mk hO (by omega) (by omega), nz_mk hO (by omega), inr_mk hO (by omega) (by omega), nz_mk hO (by omega), ?_⟩
  obtain ⟨P2, hP2⟩ : ∃ P, ofP monP monS = P := ⟨_, rfl⟩
  obtain ⟨L2, hL2⟩ : ∃ L, ofL monP monS = L := ⟨_, rfl⟩
  have M1 : O .le 1 mo = true := by subst hO; simp [std]; omega
  have M2 : O .le mo 12 = true := by subst hO; simp [std]; omega
  obtain ⟨f, hf⟩ : ∃ f : Nat, (mo - 1).toNat = f := ⟨_, rfl⟩
  have hf1 : f ≤ 11 := by omega
  have hmf : mo = f + 1 := by omega
  obtain ⟨P1, hP1⟩ : ∃ P, ofP 146097 (yeS f) = P := ⟨_, rfl⟩
  obtain ⟨L1, hL1⟩ : ∃ L, ofL 146097 (yeS f) = L := ⟨_, rfl⟩
  obtain ⟨o1, ho1⟩ : ∃ o, Mo f = o := ⟨_, rfl⟩
  have hy := years_fn (first := mo) (o := o1) (P := P1) (L := L1) hm.1 hm.2 (by rw [hf, ← ho1]; exact mon_psum f (by omega)) (by rw [hf]; exact years_ok hf1) (by rw [hf, years_per hf1]; omega) (by rw [hf, years_per hf1]; exact hP1) (by rw [hf, years_per hf1]; exact hL1)
  refine call_go hO hX hy (by kernel_rfl) [] rfl trivial rfl ?_
  rintro _ _ ⟨rfl, rfl⟩
  cbv
  have W1 : O .le 1 wd = true := by subst hO; simp [std]; omega
  have W2 : O .le wd 7 = false := by subst hO; simp [std]; omega
  refine call_go hO hX (weeks_no (first := wd) (by omega)) (by kernel_rfl) [] rfl trivial rfl ?_
  rintro _ _ ⟨rfl, rfl⟩
  cbv
  repeat ((first | rw [M1] | rw [M2] | rw [W1] | rw [W2] | rw [E00] | rw [E20] | rw [E22] | rw [N1] | rw [N0] | rw [B11] | rw [B00] | rw [A11] | rw [Ea] | rw [Eb] | rw [Ec] | rw [Ed] | rw [Ewb] | rw [Ewd]); (repeat (first | rw [M1] | rw [M2] | rw [W1] | rw [W2] | rw [E00] | rw [E20] | rw [E22] | rw [N1] | rw [N0] | rw [B11] | rw [B00] | rw [A11] | rw [Ea] | rw [Eb] | rw [Ec] | rw [Ed] | rw [Ewb] | rw [Ewd])); cbv)
  split
  · rename_i c1
    cbv
    exact fin_plain hX rfl rfl (by cbv) ⟨rfl, rfl⟩
  rename_i c1
  have c2 := lt_f hO c1
  cbv
  split
  · rename_i c3
    cbv
    exact fin_plain hX rfl rfl (by cbv) ⟨rfl, rfl⟩
  rename_i c3
  have c4 := le_f hO c3
  cbv
  obtain ⟨q, hq⟩ : ∃ q, O .quo k 12 = q := ⟨_, rfl⟩
  obtain ⟨r, hr⟩ : ∃ r, O .rem k 12 = r := ⟨_, rfl⟩
  rw [hq, hr]
  rw [quo_e hO] at hq
  rw [rem_e hO] at hr
  have hqr := tq_parts k
  rw [hq, hr] at hqr
  refine ⟨nz_mk hO (by omega), inr_mk hO (by omega) (by omega), inr_mk hO (by rw [add_e hO]; omega) (by rw [add_e hO]; omega), nz_mk hO (by omega), ?_⟩
  split
  · rename_i c5
    have c6 := lt_t hO c5
    cbv
    obtain ⟨yr, hyr⟩ : ∃ yr, O .sub (O .add 1970 q) 1 = yr := ⟨_, rfl⟩
    obtain ⟨rs, hrs⟩ : ∃ rs, O .add r 12 = rs := ⟨_, rfl⟩
    rw [hyr, hrs]
    have hyr2 : yr = 1970 + k / 12 := by rw [← hyr, sub_e hO, add_e hO]; omega
    have hrs2 : rs = k % 12 := by rw [← hrs, add_e hO]; omega
    refine ⟨inr_mk hO (by omega) (by omega), inr_mk hO (by omega) (by omega), ?_⟩
    obtain ⟨r1, hr1⟩ : ∃ r1, O .add rs 1 = r1 := ⟨_, rfl⟩
    have hr12 : r1 = k % 12 + 1 := by rw [← hr1, add_e hO]; omega
    rw [hr1]
    refine ⟨inr_mk hO (by omega) (by omega), ?_⟩
    have yb : yearB yr = true := yearB_iff.2 (by omega)
    obtain ⟨a0, ha0⟩ : ∃ a, Mo k = a := ⟨_, rfl⟩
    have hday : dayN yr r1 1 = a0 := by rw [← ha0, Mo, hyr2, hr12]
    refine call_go hO hX (cday_fn yb (by omega) (by omega) hday) (by kernel_rfl) [] rfl trivial rfl ?_
    rintro _ _ ⟨rfl, rfl⟩
    cbv
    refine call_go hO hX (monthsC_fn hP2 hL2) (by kernel_rfl) [] rfl trivial rfl ?_
    rintro _ _ ⟨rfl, rfl⟩
    cbv
    obtain ⟨b0, hb0⟩ : ∃ b, Mo (k + 1) = b := ⟨_, rfl⟩
    have hsm := span_mon (k := k) (by omega) (by omega)
    rw [ha0, hb0, hP2, hL2] at hsm
    refine call_go hO hX (span_fn (by omega) (by omega) hsm) (by kernel_rfl) [3] rfl ⟨rfl, rfl, trivial⟩ rfl ?_
    rintro _ _ ⟨rfl, rfl⟩
    clear hsm
    cbv
    repeat ((first | rw [M1] | rw [M2] | rw [W1] | rw [W2] | rw [E00] | rw [E20] | rw [E22] | rw [N1] | rw [N0] | rw [B11] | rw [B00] | rw [A11] | rw [Ea] | rw [Eb] | rw [Ec] | rw [Ed] | rw [Ewb] | rw [Ewd]); (repeat (first | rw [M1] | rw [M2] | rw [W1] | rw [W2] | rw [E00] | rw [E20] | rw [E22] | rw [N1] | rw [N0] | rw [B11] | rw [B00] | rw [A11] | rw [Ea] | rw [Eb] | rw [Ec] | rw [Ed] | rw [Ewb] | rw [Ewd])); cbv)
    rw [hr1]
    refine ⟨inr_mk hO (by omega) (by omega), ?_⟩
    obtain ⟨ln, hln⟩ : ∃ ln, lenM yr r1 = ln := ⟨_, rfl⟩
    have hnx : O .add a0 ln = b0 := by rw [add_e hO, ← ha0, ← hb0, ← hln, mo_succ (t := k) (by rw [← hyr2]; exact yb), hyr2, hr12]
    refine call_go hO hX (clen_fn yb (by omega) (by omega) hln) (by kernel_rfl) [] rfl trivial rfl ?_
    rintro _ _ ⟨rfl, rfl⟩
    cbv
    rw [hnx]
    have ma : -800000 ≤ a0 ∧ a0 ≤ 3000000 := by rw [← ha0]; exact mo_bd (by omega) (by omega)
    have mb : -800000 ≤ b0 ∧ b0 ≤ 3000000 := by rw [← hb0]; exact mo_bd (by omega) (by omega)
    refine ⟨inr_mk hO (by omega) (by omega), ?_⟩
    have Ea : O .eq a0 a0 = true := by subst hO; simp [std]
    have Eb : O .eq b0 b0 = true := by subst hO; simp [std]
    repeat ((first | rw [M1] | rw [M2] | rw [W1] | rw [W2] | rw [E00] | rw [E20] | rw [E22] | rw [N1] | rw [N0] | rw [B11] | rw [B00] | rw [A11] | rw [Ea] | rw [Eb] | rw [Ec] | rw [Ed] | rw [Ewb] | rw [Ewd]); (repeat (first | rw [M1] | rw [M2] | rw [W1] | rw [W2] | rw [E00] | rw [E20] | rw [E22] | rw [N1] | rw [N0] | rw [B11] | rw [B00] | rw [A11] | rw [Ea] | rw [Eb] | rw [Ec] | rw [Ed] | rw [Ewb] | rw [Ewd])); cbv)
    obtain ⟨c0, hc0⟩ : ∃ c, Mo (f + 12 * (k / 12)) = c := ⟨_, rfl⟩
    obtain ⟨d0, hd0⟩ : ∃ c, Mo (f + 12 * (k / 12 + 1)) = c := ⟨_, rfl⟩
    obtain ⟨y1, hy1⟩ : ∃ y1, O .add yr 1 = y1 := ⟨_, rfl⟩
    obtain ⟨ys, hys⟩ : ∃ ys, O .sub yr 1970 = ys := ⟨_, rfl⟩
    have hy12 : y1 = 1970 + (k / 12 + 1) := by rw [← hy1, add_e hO]; omega
    have hys2 : ys = k / 12 := by rw [← hys, sub_e hO]; omega
    have hdd1 : dayN yr mo 1 = c0 := by
      have := mo_parts (k / 12) hm.1 hm.2
      rw [hyr2, ← this, ← hc0, show 12 * (k / 12) + (mo - 1) = f + 12 * (k / 12) by omega]
    have hdd2 : dayN y1 mo 1 = d0 := by
      have := mo_parts (k / 12 + 1) hm.1 hm.2
      rw [hy12, ← this, ← hd0, show 12 * (k / 12 + 1) + (mo - 1) = f + 12 * (k / 12 + 1) by omega]
    have hsy := span_years hf1 (k := k / 12) (by omega) (by omega)
    rw [ho1, hP1, hL1, hc0, hd0, ← hys2] at hsy
    clear hc0 hd0
    refine call_go hO hX (cday_fn yb hm.1 hm.2 hdd1) (by kernel_rfl) [] rfl trivial rfl ?_
    rintro _ _ ⟨rfl, rfl⟩
    cbv
    rw [hy1]
    refine ⟨inr_mk hO (by omega) (by omega), ?_⟩
    refine call_go hO hX (cday_fn (yearB_iff.2 (by omega)) hm.1 hm.2 hdd2) (by kernel_rfl) [] rfl trivial rfl ?_
    rintro _ _ ⟨rfl, rfl⟩
    cbv
    rw [hys]
    refine ⟨inr_mk hO (by omega) (by omega), ?_⟩
    refine call_go hO hX (span_fn (by omega) (by omega) hsy) (by kernel_rfl) [0] rfl ⟨rfl, rfl, trivial⟩ rfl ?_
    rintro _ _ ⟨rfl, rfl⟩
    clear hsy
    have Ec : O .eq c0 c0 = true := by subst hO; simp [std]
    have Ed : O .eq d0 d0 = true := by subst hO; simp [std]
    cbv
    repeat ((first | rw [M1] | rw [M2] | rw [W1] | rw [W2] | rw [E00] | rw [E20] | rw [E22] | rw [N1] | rw [N0] | rw [B11] | rw [B00] | rw [A11] | rw [Ea] | rw [Eb] | rw [Ec] | rw [Ed] | rw [Ewb] | rw [Ewd]); (repeat (first | rw [M1] | rw [M2] | rw [W1] | rw [W2] | rw [E00] | rw [E20] | rw [E22] | rw [N1] | rw [N0] | rw [B11] | rw [B00] | rw [A11] | rw [Ea] | rw [Eb] | rw [Ec] | rw [Ed] | rw [Ewb] | rw [Ewd])); cbv)
    exact fin_plain hX rfl rfl (by cbv) ⟨rfl, rfl⟩
  · rename_i c5
    have c6 := lt_f hO c5
    cbv
    obtain ⟨yr, hyr⟩ : ∃ yr, O .add 1970 q = yr := ⟨_, rfl⟩
    rw [hyr]
    have hyr2 : yr = 1970 + k / 12 := by rw [← hyr, add_e hO]; omega
    have hrs2 : r = k % 12 := by omega
    obtain ⟨r1, hr1⟩ : ∃ r1, O .add r 1 = r1 := ⟨_, rfl⟩
    have hr12 : r1 = k % 12 + 1 := by rw [← hr1, add_e hO]; omega
    rw [hr1]
    refine ⟨inr_mk hO (by omega) (by omega), ?_⟩
    have yb : yearB yr = true := yearB_iff.2 (by omega)
    obtain ⟨a0, ha0⟩ : ∃ a, Mo k = a := ⟨_, rfl⟩
    have hday : dayN yr r1 1 = a0 := by rw [← ha0, Mo, hyr2, hr12]
    refine call_go hO hX (cday_fn yb (by omega) (by omega) hday) (by kernel_rfl) [] rfl trivial rfl ?_
    rintro _ _ ⟨rfl, rfl⟩
    cbv
    refine call_go hO hX (monthsC_fn hP2 hL2) (by kernel_rfl) [] rfl trivial rfl ?_
    rintro _ _ ⟨rfl, rfl⟩
    cbv
    obtain ⟨b0, hb0⟩ : ∃ b, Mo (k + 1) = b := ⟨_, rfl⟩
    have hsm := span_mon (k := k) (by omega) (by omega)
    rw [ha0, hb0, hP2, hL2] at hsm
    refine call_go hO hX (span_fn (by omega) (by omega) hsm) (by kernel_rfl) [3] rfl ⟨rfl, rfl, trivial⟩ rfl ?_
    rintro _ _ ⟨rfl, rfl⟩
    clear hsm
    cbv
    repeat ((first | rw [M1] | rw [M2] | rw [W1] | rw [W2] | rw [E00] | rw [E20] | rw [E22] | rw [N1] | rw [N0] | rw [B11] | rw [B00] | rw [A11] | rw [Ea] | rw [Eb] | rw [Ec] | rw [Ed] | rw [Ewb] | rw [Ewd]); (repeat (first | rw [M1] | rw [M2] | rw [W1] | rw [W2] | rw [E00] | rw [E20] | rw [E22] | rw [N1] | rw [N0] | rw [B11] | rw [B00] | rw [A11] | rw [Ea] | rw [Eb] | rw [Ec] | rw [Ed] | rw [Ewb] | rw [Ewd])); cbv)
    rw [hr1]
    refine ⟨inr_mk hO (by omega) (by omega), ?_⟩
    obtain ⟨ln, hln⟩ : ∃ ln, lenM yr r1 = ln := ⟨_, rfl⟩
    have hnx : O .add a0 ln = b0 := by rw [add_e hO, ← ha0, ← hb0, ← hln, mo_succ (t := k) (by rw [← hyr2]; exact yb), hyr2, hr12]
    refine call_go hO hX (clen_fn yb (by omega) (by omega) hln) (by kernel_rfl) [] rfl trivial rfl ?_
    rintro _ _ ⟨rfl, rfl⟩
    cbv
    rw [hnx]
    have ma : -800000 ≤ a0 ∧ a0 ≤ 3000000 := by rw [← ha0]; exact mo_bd (by omega) (by omega)
    have mb : -800000 ≤ b0 ∧ b0 ≤ 3000000 := by rw [← hb0]; exact mo_bd (by omega) (by omega)
    refine ⟨inr_mk hO (by omega) (by omega), ?_⟩
    have Ea : O .eq a0 a0 = true := by subst hO; simp [std]
    have Eb : O .eq b0 b0 = true := by subst hO; simp [std]
    repeat ((first | rw [M1] | rw [M2] | rw [W1] | rw [W2] | rw [E00] | rw [E20] | rw [E22] | rw [N1] | rw [N0] | rw [B11] | rw [B00] | rw [A11] | rw [Ea] | rw [Eb] | rw [Ec] | rw [Ed] | rw [Ewb] | rw [Ewd]); (repeat (first | rw [M1] | rw [M2] | rw [W1] | rw [W2] | rw [E00] | rw [E20] | rw [E22] | rw [N1] | rw [N0] | rw [B11] | rw [B00] | rw [A11] | rw [Ea] | rw [Eb] | rw [Ec] | rw [Ed] | rw [Ewb] | rw [Ewd])); cbv)
    obtain ⟨c0, hc0⟩ : ∃ c, Mo (f + 12 * (k / 12)) = c := ⟨_, rfl⟩
    obtain ⟨d0, hd0⟩ : ∃ c, Mo (f + 12 * (k / 12 + 1)) = c := ⟨_, rfl⟩
    obtain ⟨y1, hy1⟩ : ∃ y1, O .add yr 1 = y1 := ⟨_, rfl⟩
    obtain ⟨ys, hys⟩ : ∃ ys, O .sub yr 1970 = ys := ⟨_, rfl⟩
    have hy12 : y1 = 1970 + (k / 12 + 1) := by rw [← hy1, add_e hO]; omega
    have hys2 : ys = k / 12 := by rw [← hys, sub_e hO]; omega
    have hdd1 : dayN yr mo 1 = c0 := by
      have := mo_parts (k / 12) hm.1 hm.2
      rw [hyr2, ← this, ← hc0, show 12 * (k / 12) + (mo - 1) = f + 12 * (k / 12) by omega]
    have hdd2 : dayN y1 mo 1 = d0 := by
      have := mo_parts (k / 12 + 1) hm.1 hm.2
      rw [hy12, ← this, ← hd0, show 12 * (k / 12 + 1) + (mo - 1) = f + 12 * (k / 12 + 1) by omega]
    have hsy := span_years hf1 (k := k / 12) (by omega) (by omega)
    rw [ho1, hP1, hL1, hc0, hd0, ← hys2] at hsy
    clear hc0 hd0
    refine call_go hO hX (cday_fn yb hm.1 hm.2 hdd1) (by kernel_rfl) [] rfl trivial rfl ?_
    rintro _ _ ⟨rfl, rfl⟩
    cbv
    rw [hy1]
    refine ⟨inr_mk hO (by omega) (by omega), ?_⟩
    refine call_go hO hX (cday_fn (yearB_iff.2 (by omega)) hm.1 hm.2 hdd2) (by kernel_rfl) [] rfl trivial rfl ?_
    rintro _ _ ⟨rfl, rfl⟩
    cbv
    rw [hys]
    refine ⟨inr_mk hO (by omega) (by omega), ?_⟩
    refine call_go hO hX (span_fn (by omega) (by omega) hsy) (by kernel_rfl) [0] rfl ⟨rfl, rfl, trivial⟩ rfl ?_
    rintro _ _ ⟨rfl, rfl⟩
    clear hsy
    have Ec : O .eq c0 c0 = true := by subst hO; simp [std]
    have Ed : O .eq d0 d0 = true := by subst hO; simp [std]
    cbv
    repeat ((first | rw [M1] | rw [M2] | rw [W1] | rw [W2] | rw [E00] | rw [E20] | rw [E22] | rw [N1] | rw [N0] | rw [B11] | rw [B00] | rw [A11] | rw [Ea] | rw [Eb] | rw [Ec] | rw [Ed] | rw [Ewb] | rw [Ewd]); (repeat (first | rw [M1] | rw [M2] | rw [W1] | rw [W2] | rw [E00] | rw [E20] | rw [E22] | rw [N1] | rw [N0] | rw [B11] | rw [B00] | rw [A11] | rw [Ea] | rw [Eb] | rw [Ec] | rw [Ed] | rw [Ewb] | rw [Ewd])); cbv)
    exact fin_plain hX rfl rfl (by cbv) ⟨rfl, rfl⟩

end Go.Proofs.Ytnieceplfjmocaa
