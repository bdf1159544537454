/-
  The walk of GranuleCivil.
-/
import Derived.Test.YtnieceplfjmocaaCivilA
import Derived.Test.YtnieceplfjmocaaOpen
namespace Go.Proofs.Ytnieceplfjmocaa
open Go.RowKit
set_option maxRecDepth 100000
theorem hok_ro {w : World} {hp : List Ch} (h : ∀ d ∈ hp, ChOk w w (faces hp) d ∧ d.wr = false) : HOk w hp w :=
  ⟨Below.refl _ _, fun i d hd => (h d (List.mem_of_getElem? hd)).1, fun i j d e _ hd _ hw => by rw [(h d (List.mem_of_getElem? hd)).2] at hw; cases hw⟩
theorem fn_true {P : Program} {f : FuncId} {avs : List AV} {cks0 : List Ck} (h : Fn P f avs cks0 (fun v c => v = .c (.bool true) ∧ c = [])) (w : World) (hp0 : List Ch) (hck : hp0.map Ch.ck = cks0) (hok : HOk w hp0 w) (vs : List Value) (hvs : allv (avs.map (AV.val (faces hp0))) = some vs) :
    Calls P f vs.toArray w fun e w' => e = .returned (.bool true) ∧ Below w.heap.size w w' := by
  refine (h w hp0 hck hok vs hvs).mono fun e w' hpost => ?_
  obtain ⟨v, cks, hpn, u, ⟨rfl, rfl⟩, hckn, rfl, hu, hok', _⟩ := hpost
  simp only [AV.val, Ce.val, Option.some.injEq] at hu
  subst hu
  exact ⟨rfl, hok'.bel⟩
section
open Go.ChangeShapes Go.WideShapes Go.ChangeAt Go.Joins Go.Deep
variable {H : Type} {enc : TypeId × Value → H} {w : World} {base b0 : Nat} {spare : Nat → Bool} {held : Bool}
theorem open_u8 {v : Value} {d : DataW H} {p : List MemPlace} (hv : Value.okWide Try.prog w .any b0 5 v) (h : DataW.Trod enc Try.prog w base spare held 5 v d p) :
    ∃ n, v = .int .u8 n ∧ 0 ≤ n ∧ n ≤ 255 := by
  obtain ⟨n, rfl, _, _, hw⟩ := open_int (P := Try.prog) (t := 5) (k := .u8) Try.underlying5 hv h
  have := bounds_u8 hw
  exact ⟨n, rfl, by omega, by omega⟩
end
set_option maxHeartbeats 40000000 in
theorem civil_0y {k n : Int} (hk1 : -9223372036854775808 ≤ k) (hk2 : k ≤ 9223372036854775807) (hn : 0 ≤ n ∧ n ≤ 255) (hm : n % 14 = 0) (hw : 1 ≤ n % 9 ∧ n % 9 ≤ 7) : Fn Try.prog 10 [.c (.int .i64 k), .c (.int .u8 n)] [] (fun v c => v = .c (.bool true) ∧ c = []) := by
  refine fn_run tab_holds eqs_holds mixed [(15, [(1, [0, 1, 2, 3, 4, 5, 6, 7, 8, 9, 10, 11, 12]), (2, [13]), (1, [14, 15, 16, 17])], [])] Try.func10 (by kernel_rfl) (by kernel_rfl) (by decide) ?_
  intro O X hO hX
  cbv
  refine call_go hO hX awake_fn (by kernel_rfl) [] rfl trivial rfl ?_
  rintro _ _ ⟨rfl, rfl⟩
  cbv
  rw [(not_lit hO).1]
  cbv
  obtain ⟨mo, hmo⟩ : ∃ mo, O .rem n 14 = mo := ⟨_, rfl⟩
  obtain ⟨wd, hwd⟩ : ∃ wd, O .rem n 9 = wd := ⟨_, rfl⟩
  rw [hmo, hwd]
  have hmo1 : 0 ≤ mo ∧ mo ≤ 13 := by rw [← hmo, rem_e hO, Int.tmod_eq_emod_of_nonneg hn.1]; omega
  have hwd1 : 0 ≤ wd ∧ wd ≤ 8 := by rw [← hwd, rem_e hO, Int.tmod_eq_emod_of_nonneg hn.1]; omega
  have hmoe : n % 14 = mo := by rw [← hmo, rem_e hO, Int.tmod_eq_emod_of_nonneg hn.1]
  have hwde : n % 9 = wd := by rw [← hwd, rem_e hO, Int.tmod_eq_emod_of_nonneg hn.1]
  clear hmo hwd
  rw [hmoe] at hm
  rw [hwde] at hw
  have E00 : O .eq 0 0 = true := by subst hO; rfl
  have E20 : O .eq 2 0 = false := by subst hO; rfl
  have E22 : O .eq 2 2 = true := by subst hO; rfl
  have N1 := (not_lit hO).1
  have N0 := (not_lit hO).2
  have B11 : O .beq true true = true := by subst hO; rfl
  have B00 : O .beq false false = true := by subst hO; rfl
  have A11 : O .and true true = true := by subst hO; rfl
  refine ⟨inr_mk hO (by omega) (by omega), nz_mk hO (by omega), inr_mk hO (by omega) (by omega), nz_mk hO (by omega), ?_⟩
  obtain ⟨P2, hP2⟩ : ∃ P, ofP monP monS = P := ⟨_, rfl⟩
  obtain ⟨L2, hL2⟩ : ∃ L, ofL monP monS = L := ⟨_, rfl⟩
  have M1 : O .le 1 mo = false := by subst hO; simp [std]; omega
  refine call_go hO hX (years_no (first := mo) (by omega)) (by kernel_rfl) [] rfl trivial rfl ?_
  rintro _ _ ⟨rfl, rfl⟩
  cbv
  have W1 : O .le 1 wd = true := by subst hO; simp [std]; omega
  have W2 : O .le wd 7 = true := by subst hO; simp [std]; omega
  have hwk := weeks_fn hw.1 hw.2
  obtain ⟨v, hv⟩ : ∃ v, (4 - wd) % 7 = v := ⟨_, rfl⟩
  rw [hv] at hwk
  obtain ⟨v', hv'⟩ : ∃ v', -v = v' := ⟨_, rfl⟩
  rw [hv'] at hwk
  refine call_go hO hX hwk (by kernel_rfl) [] rfl trivial rfl ?_
  rintro _ _ ⟨rfl, rfl⟩
  cbv
  repeat ((first | rw [M1] | rw [M2] | rw [W1] | rw [W2] | rw [E00] | rw [E20] | rw [E22] | rw [N1] | rw [N0] | rw [B11] | rw [B00] | rw [A11] | rw [Ea] | rw [Eb] | rw [Ec] | rw [Ed] | rw [Ewb] | rw [Ewd]); (repeat (first | rw [M1] | rw [M2] | rw [W1] | rw [W2] | rw [E00] | rw [E20] | rw [E22] | rw [N1] | rw [N0] | rw [B11] | rw [B00] | rw [A11] | rw [Ea] | rw [Eb] | rw [Ec] | rw [Ed] | rw [Ewb] | rw [Ewd])); cbv)
  split
  · rename_i c1
    cbv
    exact fin_plain hX rfl rfl (by cbv) ⟨rfl, rfl⟩
  rename_i c1
  have c2 := lt_f hO c1
  cbv
  split
  · rename_i c3
    cbv
    exact fin_plain hX rfl rfl (by cbv) ⟨rfl, rfl⟩
  rename_i c3
  have c4 := le_f hO c3
  cbv
  obtain ⟨q, hq⟩ : ∃ q, O .quo k 12 = q := ⟨_, rfl⟩
  obtain ⟨r, hr⟩ : ∃ r, O .rem k 12 = r := ⟨_, rfl⟩
  rw [hq, hr]
  rw [quo_e hO] at hq
  rw [rem_e hO] at hr
  have hqr := tq_parts k
  rw [hq, hr] at hqr
  refine ⟨nz_mk hO (by omega), inr_mk hO (by omega) (by omega), inr_mk hO (by rw [add_e hO]; omega) (by rw [add_e hO]; omega), nz_mk hO (by omega), ?_⟩
  split
  · rename_i c5
    have c6 := lt_t hO c5
    cbv
    obtain ⟨yr, hyr⟩ : ∃ yr, O .sub (O .add 1970 q) 1 = yr := ⟨_, rfl⟩
    obtain ⟨rs, hrs⟩ : ∃ rs, O .add r 12 = rs := ⟨_, rfl⟩
    rw [hyr, hrs]
    have hyr2 : yr = 1970 + k / 12 := by rw [← hyr, sub_e hO, add_e hO]; omega
    have hrs2 : rs = k % 12 := by rw [← hrs, add_e hO]; omega
    refine ⟨inr_mk hO (by omega) (by omega), inr_mk hO (by omega) (by omega), ?_⟩
    obtain ⟨r1, hr1⟩ : ∃ r1, O .add rs 1 = r1 := ⟨_, rfl⟩
    have hr12 : r1 = k % 12 + 1 := by rw [← hr1, add_e hO]; omega
    rw [hr1]
    refine ⟨inr_mk hO (by omega) (by omega), ?_⟩
    have yb : yearB yr = true := yearB_iff.2 (by omega)
    obtain ⟨a0, ha0⟩ : ∃ a, Mo k = a := ⟨_, rfl⟩
    have hday : dayN yr r1 1 = a0 := by rw [← ha0, Mo, hyr2, hr12]
    refine call_go hO hX (cday_fn yb (by omega) (by omega) hday) (by kernel_rfl) [] rfl trivial rfl ?_
    rintro _ _ ⟨rfl, rfl⟩
    cbv
    refine call_go hO hX (monthsC_fn hP2 hL2) (by kernel_rfl) [] rfl trivial rfl ?_
    rintro _ _ ⟨rfl, rfl⟩
    cbv
    obtain ⟨b0, hb0⟩ : ∃ b, Mo (k + 1) = b := ⟨_, rfl⟩
    have hsm := span_mon (k := k) (by omega) (by omega)
    rw [ha0, hb0, hP2, hL2] at hsm
    refine call_go hO hX (span_fn (by omega) (by omega) hsm) (by kernel_rfl) [3] rfl ⟨rfl, rfl, trivial⟩ rfl ?_
    rintro _ _ ⟨rfl, rfl⟩
    clear hsm
    cbv
    repeat ((first | rw [M1] | rw [M2] | rw [W1] | rw [W2] | rw [E00] | rw [E20] | rw [E22] | rw [N1] | rw [N0] | rw [B11] | rw [B00] | rw [A11] | rw [Ea] | rw [Eb] | rw [Ec] | rw [Ed] | rw [Ewb] | rw [Ewd]); (repeat (first | rw [M1] | rw [M2] | rw [W1] | rw [W2] | rw [E00] | rw [E20] | rw [E22] | rw [N1] | rw [N0] | rw [B11] | rw [B00] | rw [A11] | rw [Ea] | rw [Eb] | rw [Ec] | rw [Ed] | rw [Ewb] | rw [Ewd])); cbv)
    rw [hr1]
    refine ⟨inr_mk hO (by omega) (by omega), ?_⟩
    obtain ⟨ln, hln⟩ : ∃ ln, lenM yr r1 = ln := ⟨_, rfl⟩
    have hnx : O .add a0 ln = b0 := by rw [add_e hO, ← ha0, ← hb0, ← hln, mo_succ (t := k) (by rw [← hyr2]; exact yb), hyr2, hr12]
    refine call_go hO hX (clen_fn yb (by omega) (by omega) hln) (by kernel_rfl) [] rfl trivial rfl ?_
    rintro _ _ ⟨rfl, rfl⟩
    cbv
    rw [hnx]
    have ma : -800000 ≤ a0 ∧ a0 ≤ 3000000 := by rw [← ha0]; exact mo_bd (by omega) (by omega)
    have mb : -800000 ≤ b0 ∧ b0 ≤ 3000000 := by rw [← hb0]; exact mo_bd (by omega) (by omega)
    refine ⟨inr_mk hO (by omega) (by omega), ?_⟩
    have Ea : O .eq a0 a0 = true := by subst hO; simp [std]
    have Eb : O .eq b0 b0 = true := by subst hO; simp [std]
    repeat ((first | rw [M1] | rw [M2] | rw [W1] | rw [W2] | rw [E00] | rw [E20] | rw [E22] | rw [N1] | rw [N0] | rw [B11] | rw [B00] | rw [A11] | rw [Ea] | rw [Eb] | rw [Ec] | rw [Ed] | rw [Ewb] | rw [Ewd]); (repeat (first | rw [M1] | rw [M2] | rw [W1] | rw [W2] | rw [E00] | rw [E20] | rw [E22] | rw [N1] | rw [N0] | rw [B11] | rw [B00] | rw [A11] | rw [Ea] | rw [Eb] | rw [Ec] | rw [Ed] | rw [Ewb] | rw [Ewd])); cbv)
    skip
    obtain ⟨wa, hwa⟩ : ∃ x, 7 * k + v' = x := ⟨_, rfl⟩
    obtain ⟨wb, hwb⟩ : ∃ x, 7 * k + v' + 7 = x := ⟨_, rfl⟩
    have hsw : spanF v' 7 [(0, 7)] k = wa ∧ spanT v' 7 [(0, 7)] k = wb ∧ spanE v' 7 [(0, 7)] k = 0 := by
      have := weeks_at v k
      rw [hv'] at this
      have hV := weeks_vd (v := v) (by omega) (by omega)
      rw [hv'] at hV
      exact span_of hV k _ _ (by rw [this.1]; omega) (by rw [this.2]; omega) (by omega) (by omega)
    have hfi : findB v' 7 [(0, 7)] 0 = true ∧ findN v' 7 [(0, 7)] 0 = 0 := by
      have := weeks_at v 0
      rw [hv'] at this
      have hV := weeks_vd (v := v) (by omega) (by omega)
      rw [hv'] at hV
      have h := find_in (k := 0) (x := 0) hV.back (lineB_iff.2 (by omega)) (by rw [this.1]; omega) (by rw [this.2]; omega)
      exact ⟨h.1, h.2.1⟩
    refine call_go hO hX (span_fn (by omega) (by omega) hsw) (by kernel_rfl) [1] rfl ⟨rfl, rfl, trivial⟩ rfl ?_
    rintro _ _ ⟨rfl, rfl⟩
    clear hsw
    cbv
    refine call_go hO hX (find_fn hfi) (by kernel_rfl) [1] rfl ⟨rfl, rfl, trivial⟩ rfl ?_
    rintro _ _ ⟨rfl, rfl⟩
    clear hfi
    cbv
    have Ewb : O .eq wb (O .add wa 7) = true := by subst hO; simp [std]; omega
    have Ewd : O .eq wd wd = true := by subst hO; simp [std]
    repeat ((first | rw [M1] | rw [M2] | rw [W1] | rw [W2] | rw [E00] | rw [E20] | rw [E22] | rw [N1] | rw [N0] | rw [B11] | rw [B00] | rw [A11] | rw [Ea] | rw [Eb] | rw [Ec] | rw [Ed] | rw [Ewb] | rw [Ewd]); (repeat (first | rw [M1] | rw [M2] | rw [W1] | rw [W2] | rw [E00] | rw [E20] | rw [E22] | rw [N1] | rw [N0] | rw [B11] | rw [B00] | rw [A11] | rw [Ea] | rw [Eb] | rw [Ec] | rw [Ed] | rw [Ewb] | rw [Ewd])); cbv)
    refine ⟨inr_mk hO (by rw [add_e hO]; omega) (by rw [add_e hO]; omega), ?_⟩
    repeat ((first | rw [M1] | rw [M2] | rw [W1] | rw [W2] | rw [E00] | rw [E20] | rw [E22] | rw [N1] | rw [N0] | rw [B11] | rw [B00] | rw [A11] | rw [Ea] | rw [Eb] | rw [Ec] | rw [Ed] | rw [Ewb] | rw [Ewd]); (repeat (first | rw [M1] | rw [M2] | rw [W1] | rw [W2] | rw [E00] | rw [E20] | rw [E22] | rw [N1] | rw [N0] | rw [B11] | rw [B00] | rw [A11] | rw [Ea] | rw [Eb] | rw [Ec] | rw [Ed] | rw [Ewb] | rw [Ewd])); cbv)
    refine call_go hO hX (cweekday_fn (d := wa) (v := wd) (by omega) (by omega) (by omega)) (by kernel_rfl) [] rfl trivial rfl ?_
    rintro _ _ ⟨rfl, rfl⟩
    cbv
    repeat ((first | rw [M1] | rw [M2] | rw [W1] | rw [W2] | rw [E00] | rw [E20] | rw [E22] | rw [N1] | rw [N0] | rw [B11] | rw [B00] | rw [A11] | rw [Ea] | rw [Eb] | rw [Ec] | rw [Ed] | rw [Ewb] | rw [Ewd]); (repeat (first | rw [M1] | rw [M2] | rw [W1] | rw [W2] | rw [E00] | rw [E20] | rw [E22] | rw [N1] | rw [N0] | rw [B11] | rw [B00] | rw [A11] | rw [Ea] | rw [Eb] | rw [Ec] | rw [Ed] | rw [Ewb] | rw [Ewd])); cbv)
    exact fin_plain hX rfl rfl (by cbv) ⟨rfl, rfl⟩
  · rename_i c5
    have c6 := lt_f hO c5
    cbv
    obtain ⟨yr, hyr⟩ : ∃ yr, O .add 1970 q = yr := ⟨_, rfl⟩
    rw [hyr]
    have hyr2 : yr = 1970 + k / 12 := by rw [← hyr, add_e hO]; omega
    have hrs2 : r = k % 12 := by omega
    obtain ⟨r1, hr1⟩ : ∃ r1, O .add r 1 = r1 := ⟨_, rfl⟩
    have hr12 : r1 = k % 12 + 1 := by rw [← hr1, add_e hO]; omega
    rw [hr1]
    refine ⟨inr_mk hO (by omega) (by omega), ?_⟩
    have yb : yearB yr = true := yearB_iff.2 (by omega)
    obtain ⟨a0, ha0⟩ : ∃ a, Mo k = a := ⟨_, rfl⟩
    have hday : dayN yr r1 1 = a0 := by rw [← ha0, Mo, hyr2, hr12]
    refine call_go hO hX (cday_fn yb (by omega) (by omega) hday) (by kernel_rfl) [] rfl trivial rfl ?_
    rintro _ _ ⟨rfl, rfl⟩
    cbv
    refine call_go hO hX (monthsC_fn hP2 hL2) (by kernel_rfl) [] rfl trivial rfl ?_
    rintro _ _ ⟨rfl, rfl⟩
    cbv
    obtain ⟨b0, hb0⟩ : ∃ b, Mo (k + 1) = b := ⟨_, rfl⟩
    have hsm := span_mon (k := k) (by omega) (by omega)
    rw [ha0, hb0, hP2, hL2] at hsm
    refine call_go hO hX (span_fn (by omega) (by omega) hsm) (by kernel_rfl) [3] rfl ⟨rfl, rfl, trivial⟩ rfl ?_
    rintro _ _ ⟨rfl, rfl⟩
    clear hsm
    cbv
    repeat ((first | rw [M1] | rw [M2] | rw [W1] | rw [W2] | rw [E00] | rw [E20] | rw [E22] | rw [N1] | rw [N0] | rw [B11] | rw [B00] | rw [A11] | rw [Ea] | rw [Eb] | rw [Ec] | rw [Ed] | rw [Ewb] | rw [Ewd]); (repeat (first | rw [M1] | rw [M2] | rw [W1] | rw [W2] | rw [E00] | rw [E20] | rw [E22] | rw [N1] | rw [N0] | rw [B11] | rw [B00] | rw [A11] | rw [Ea] | rw [Eb] | rw [Ec] | rw [Ed] | rw [Ewb] | rw [Ewd])); cbv)
    rw [hr1]
    refine ⟨inr_mk hO (by omega) (by omega), ?_⟩
    obtain ⟨ln, hln⟩ : ∃ ln, lenM yr r1 = ln := ⟨_, rfl⟩
    have hnx : O .add a0 ln = b0 := by rw [add_e hO, ← ha0, ← hb0, ← hln, mo_succ (t := k) (by rw [← hyr2]; exact yb), hyr2, hr12]
    refine call_go hO hX (clen_fn yb (by omega) (by omega) hln) (by kernel_rfl) [] rfl trivial rfl ?_
    rintro _ _ ⟨rfl, rfl⟩
    cbv
    rw [hnx]
    have ma : -800000 ≤ a0 ∧ a0 ≤ 3000000 := by rw [← ha0]; exact mo_bd (by omega) (by omega)
    have mb : -800000 ≤ b0 ∧ b0 ≤ 3000000 := by rw [← hb0]; exact mo_bd (by omega) (by omega)
    refine ⟨inr_mk hO (by omega) (by omega), ?_⟩
    have Ea : O .eq a0 a0 = true := by subst hO; simp [std]
    have Eb : O .eq b0 b0 = true := by subst hO; simp [std]
    repeat ((first | rw [M1] | rw [M2] | rw [W1] | rw [W2] | rw [E00] | rw [E20] | rw [E22] | rw [N1] | rw [N0] | rw [B11] | rw [B00] | rw [A11] | rw [Ea] | rw [Eb] | rw [Ec] | rw [Ed] | rw [Ewb] | rw [Ewd]); (repeat (first | rw [M1] | rw [M2] | rw [W1] | rw [W2] | rw [E00] | rw [E20] | rw [E22] | rw [N1] | rw [N0] | rw [B11] | rw [B00] | rw [A11] | rw [Ea] | rw [Eb] | rw [Ec] | rw [Ed] | rw [Ewb] | rw [Ewd])); cbv)
    skip
    obtain ⟨wa, hwa⟩ : ∃ x, 7 * k + v' = x := ⟨_, rfl⟩
    obtain ⟨wb, hwb⟩ : ∃ x, 7 * k + v' + 7 = x := ⟨_, rfl⟩
    have hsw : spanF v' 7 [(0, 7)] k = wa ∧ spanT v' 7 [(0, 7)] k = wb ∧ spanE v' 7 [(0, 7)] k = 0 := by
      have := weeks_at v k
      rw [hv'] at this
      have hV := weeks_vd (v := v) (by omega) (by omega)
      rw [hv'] at hV
      exact span_of hV k _ _ (by rw [this.1]; omega) (by rw [this.2]; omega) (by omega) (by omega)
    have hfi : findB v' 7 [(0, 7)] 0 = true ∧ findN v' 7 [(0, 7)] 0 = 0 := by
      have := weeks_at v 0
      rw [hv'] at this
      have hV := weeks_vd (v := v) (by omega) (by omega)
      rw [hv'] at hV
      have h := find_in (k := 0) (x := 0) hV.back (lineB_iff.2 (by omega)) (by rw [this.1]; omega) (by rw [this.2]; omega)
      exact ⟨h.1, h.2.1⟩
    refine call_go hO hX (span_fn (by omega) (by omega) hsw) (by kernel_rfl) [1] rfl ⟨rfl, rfl, trivial⟩ rfl ?_
    rintro _ _ ⟨rfl, rfl⟩
    clear hsw
    cbv
    refine call_go hO hX (find_fn hfi) (by kernel_rfl) [1] rfl ⟨rfl, rfl, trivial⟩ rfl ?_
    rintro _ _ ⟨rfl, rfl⟩
    clear hfi
    cbv
    have Ewb : O .eq wb (O .add wa 7) = true := by subst hO; simp [std]; omega
    have Ewd : O .eq wd wd = true := by subst hO; simp [std]
    repeat ((first | rw [M1] | rw [M2] | rw [W1] | rw [W2] | rw [E00] | rw [E20] | rw [E22] | rw [N1] | rw [N0] | rw [B11] | rw [B00] | rw [A11] | rw [Ea] | rw [Eb] | rw [Ec] | rw [Ed] | rw [Ewb] | rw [Ewd]); (repeat (first | rw [M1] | rw [M2] | rw [W1] | rw [W2] | rw [E00] | rw [E20] | rw [E22] | rw [N1] | rw [N0] | rw [B11] | rw [B00] | rw [A11] | rw [Ea] | rw [Eb] | rw [Ec] | rw [Ed] | rw [Ewb] | rw [Ewd])); cbv)
    refine ⟨inr_mk hO (by rw [add_e hO]; omega) (by rw [add_e hO]; omega), ?_⟩
    repeat ((first | rw [M1] | rw [M2] | rw [W1] | rw [W2] | rw [E00] | rw [E20] | rw [E22] | rw [N1] | rw [N0] | rw [B11] | rw [B00] | rw [A11] | rw [Ea] | rw [Eb] | rw [Ec] | rw [Ed] | rw [Ewb] | rw [Ewd]); (repeat (first | rw [M1] | rw [M2] | rw [W1] | rw [W2] | rw [E00] | rw [E20] | rw [E22] | rw [N1] | rw [N0] | rw [B11] | rw [B00] | rw [A11] | rw [Ea] | rw [Eb] | rw [Ec] | rw [Ed] | rw [Ewb] | rw [Ewd])); cbv)
    refine call_go hO hX (cweekday_fn (d := wa) (v := wd) (by omega) (by omega) (by omega)) (by kernel_rfl) [] rfl trivial rfl ?_
    rintro _ _ ⟨rfl, rfl⟩
    cbv
    repeat ((first | rw [M1] | rw [M2] | rw [W1] | rw [W2] | rw [E00] | rw [E20] | rw [E22] | rw [N1] | rw [N0] | rw [B11] | rw [B00] | rw [A11] | rw [Ea] | rw [Eb] | rw [Ec] | rw [Ed] | rw [Ewb] | rw [Ewd]); (repeat (first | rw [M1] | rw [M2] | rw [W1] | rw [W2] | rw [E00] | rw [E20] | rw [E22] | rw [N1] | rw [N0] | rw [B11] | rw [B00] | rw [A11] | rw [Ea] | rw [Eb] | rw [Ec] | rw [Ed] | rw [Ewb] | rw [Ewd])); cbv)
    exact fin_plain hX rfl rfl (by cbv) ⟨rfl, rfl⟩

set_option maxHeartbeats 40000000 in
theorem civil_1y {k n : Int} (hk1 : -9223372036854775808 ≤ k) (hk2 : k ≤ 9223372036854775807) (hn : 0 ≤ n ∧ n ≤ 255) (hm : n % 14 = 13) (hw : 1 ≤ n % 9 ∧ n % 9 ≤ 7) : Fn Try.prog 10 [.c (.int .i64 k), .c (.int .u8 n)] [] (fun v c => v = .c (.bool true) ∧ c = []) := by
  refine fn_run tab_holds eqs_holds mixed [(15, [(1, [0, 1, 2, 3, 4, 5, 6, 7, 8, 9, 10, 11, 12]), (2, [13]), (1, [14, 15, 16, 17])], [])] Try.func10 (by kernel_rfl) (by kernel_rfl) (by decide) ?_
  intro O X hO hX
  cbv
  refine call_go hO hX awake_fn (by kernel_rfl) [] rfl trivial rfl ?_
  rintro _ _ ⟨rfl, rfl⟩
  cbv
  rw [(not_lit hO).1]
  cbv
  obtain ⟨mo, hmo⟩ : ∃ mo, O .rem n 14 = mo := ⟨_, rfl⟩
  obtain ⟨wd, hwd⟩ : ∃ wd, O .rem n 9 = wd := ⟨_, rfl⟩
  rw [hmo, hwd]
  have hmo1 : 0 ≤ mo ∧ mo ≤ 13 := by rw [← hmo, rem_e hO, Int.tmod_eq_emod_of_nonneg hn.1]; omega
  have hwd1 : 0 ≤ wd ∧ wd ≤ 8 := by rw [← hwd, rem_e hO, Int.tmod_eq_emod_of_nonneg hn.1]; omega
  have hmoe : n % 14 = mo := by rw [← hmo, rem_e hO, Int.tmod_eq_emod_of_nonneg hn.1]
  have hwde : n % 9 = wd := by rw [← hwd, rem_e hO, Int.tmod_eq_emod_of_nonneg hn.1]
  clear hmo hwd
  rw [hmoe] at hm
  rw [hwde] at hw
  have E00 : O .eq 0 0 = true := by subst hO; rfl
  have E20 : O .eq 2 0 = false := by subst hO; rfl
  have E22 : O .eq 2 2 = true := by subst hO; rfl
  have N1 := (not_lit hO).1
  have N0 := (not_lit hO).2
  have B11 : O .beq true true = true := by subst hO; rfl
  have B00 : O .beq false false = true := by subst hO; rfl
  have A11 : O .and true true = true := by subst hO; rfl
  refine ⟨inr_mk hO (by omega) (by omega), nz_mk hO (by omega), inr_mk hO (by omega) (by omega), nz_mk hO (by omega), ?_⟩
  obtain ⟨P2, hP2⟩ : ∃ P, ofP monP monS = P := ⟨_, rfl⟩
  obtain ⟨L2, hL2⟩ : ∃ L, ofL monP monS = L := ⟨_, rfl⟩
  have M1 : O .le 1 mo = true := by subst hO; simp [std]; omega
  have M2 : O .le mo 12 = false := by subst hO; simp [std]; omega
  refine call_go hO hX (years_no (first := mo) (by omega)) (by kernel_rfl) [] rfl trivial rfl ?_
  rintro _ _ ⟨rfl, rfl⟩
  cbv
  have W1 : O .le 1 wd = true := by subst hO; simp [std]; omega
  have W2 : O .le wd 7 = true := by subst hO; simp [std]; omega
  have hwk := weeks_fn hw.1 hw.2
  obtain ⟨v, hv⟩ : ∃ v, (4 - wd) % 7 = v := ⟨_, rfl⟩
  rw [hv] at hwk
  obtain ⟨v', hv'⟩ : ∃ v', -v = v' := ⟨_, rfl⟩
  rw [hv'] at hwk
  refine call_go hO hX hwk (by kernel_rfl) [] rfl trivial rfl ?_
  rintro _ _ ⟨rfl, rfl⟩
  cbv
  repeat ((first | rw [M1] | rw [M2] | rw [W1] | rw [W2] | rw [E00] | rw [E20] | rw [E22] | rw [N1] | rw [N0] | rw [B11] | rw [B00] | rw [A11] | rw [Ea] | rw [Eb] | rw [Ec] | rw [Ed] | rw [Ewb] | rw [Ewd]); (repeat (first | rw [M1] | rw [M2] | rw [W1] | rw [W2] | rw [E00] | rw [E20] | rw [E22] | rw [N1] | rw [N0] | rw [B11] | rw [B00] | rw [A11] | rw [Ea] | rw [Eb] | rw [Ec] | rw [Ed] | rw [Ewb] | rw [Ewd])); cbv)
  split
  · rename_i c1
    cbv
    exact fin_plain hX rfl rfl (by cbv) ⟨rfl, rfl⟩
  rename_i c1
  have c2 := lt_f hO c1
  cbv
  split
  · rename_i c3
    cbv
    exact fin_plain hX rfl rfl (by cbv) ⟨rfl, rfl⟩
  rename_i c3
  have c4 := le_f hO c3
  cbv
  obtain ⟨q, hq⟩ : ∃ q, O .quo k 12 = q := ⟨_, rfl⟩
  obtain ⟨r, hr⟩ : ∃ r, O .rem k 12 = r := ⟨_, rfl⟩
  rw [hq, hr]
  rw [quo_e hO] at hq
  rw [rem_e hO] at hr
  have hqr := tq_parts k
  rw [hq, hr] at hqr
  refine ⟨nz_mk hO (by omega), inr_mk hO (by omega) (by omega), inr_mk hO (by rw [add_e hO]; omega) (by rw [add_e hO]; omega), nz_mk hO (by omega), ?_⟩
  split
  · rename_i c5
    have c6 := lt_t hO c5
    cbv
    obtain ⟨yr, hyr⟩ : ∃ yr, O .sub (O .add 1970 q) 1 = yr := ⟨_, rfl⟩
    obtain ⟨rs, hrs⟩ : ∃ rs, O .add r 12 = rs := ⟨_, rfl⟩
    rw [hyr, hrs]
    have hyr2 : yr = 1970 + k / 12 := by rw [← hyr, sub_e hO, add_e hO]; omega
    have hrs2 : rs = k % 12 := by rw [← hrs, add_e hO]; omega
    refine ⟨inr_mk hO (by omega) (by omega), inr_mk hO (by omega) (by omega), ?_⟩
    obtain ⟨r1, hr1⟩ : ∃ r1, O .add rs 1 = r1 := ⟨_, rfl⟩
    have hr12 : r1 = k % 12 + 1 := by rw [← hr1, add_e hO]; omega
    rw [hr1]
    refine ⟨inr_mk hO (by omega) (by omega), ?_⟩
    have yb : yearB yr = true := yearB_iff.2 (by omega)
    obtain ⟨a0, ha0⟩ : ∃ a, Mo k = a := ⟨_, rfl⟩
    have hday : dayN yr r1 1 = a0 := by rw [← ha0, Mo, hyr2, hr12]
    refine call_go hO hX (cday_fn yb (by omega) (by omega) hday) (by kernel_rfl) [] rfl trivial rfl ?_
    rintro _ _ ⟨rfl, rfl⟩
    cbv
    refine call_go hO hX (monthsC_fn hP2 hL2) (by kernel_rfl) [] rfl trivial rfl ?_
    rintro _ _ ⟨rfl, rfl⟩
    cbv
    obtain ⟨b0, hb0⟩ : ∃ b, Mo (k + 1) = b := ⟨_, rfl⟩
    have hsm := span_mon (k := k) (by omega) (by omega)
    rw [ha0, hb0, hP2, hL2] at hsm
    refine call_go hO hX (span_fn (by omega) (by omega) hsm) (by kernel_rfl) [3] rfl ⟨rfl, rfl, trivial⟩ rfl ?_
    rintro _ _ ⟨rfl, rfl⟩
    clear hsm
    cbv
    repeat ((first | rw [M1] | rw [M2] | rw [W1] | rw [W2] | rw [E00] | rw [E20] | rw [E22] | rw [N1] | rw [N0] | rw [B11] | rw [B00] | rw [A11] | rw [Ea] | rw [Eb] | rw [Ec] | rw [Ed] | rw [Ewb] | rw [Ewd]); (repeat (first | rw [M1] | rw [M2] | rw [W1] | rw [W2] | rw [E00] | rw [E20] | rw [E22] | rw [N1] | rw [N0] | rw [B11] | rw [B00] | rw [A11] | rw [Ea] | rw [Eb] | rw [Ec] | rw [Ed] | rw [Ewb] | rw [Ewd])); cbv)
    rw [hr1]
    refine ⟨inr_mk hO (by omega) (by omega), ?_⟩
    obtain ⟨ln, hln⟩ : ∃ ln, lenM yr r1 = ln := ⟨_, rfl⟩
    have hnx : O .add a0 ln = b0 := by rw [add_e hO, ← ha0, ← hb0, ← hln, mo_succ (t := k) (by rw [← hyr2]; exact yb), hyr2, hr12]
    refine call_go hO hX (clen_fn yb (by omega) (by omega) hln) (by kernel_rfl) [] rfl trivial rfl ?_
    rintro _ _ ⟨rfl, rfl⟩
    cbv
    rw [hnx]
    have ma : -800000 ≤ a0 ∧ a0 ≤ 3000000 := by rw [← ha0]; exact mo_bd (by omega) (by omega)
    have mb : -800000 ≤ b0 ∧ b0 ≤ 3000000 := by rw [← hb0]; exact mo_bd (by omega) (by omega)
    refine ⟨inr_mk hO (by omega) (by omega), ?_⟩
    have Ea : O .eq a0 a0 = true := by subst hO; simp [std]
    have Eb : O .eq b0 b0 = true := by subst hO; simp [std]
    repeat ((first | rw [M1] | rw [M2] | rw [W1] | rw [W2] | rw [E00] | rw [E20] | rw [E22] | rw [N1] | rw [N0] | rw [B11] | rw [B00] | rw [A11] | rw [Ea] | rw [Eb] | rw [Ec] | rw [Ed] | rw [Ewb] | rw [Ewd]); (repeat (first | rw [M1] | rw [M2] | rw [W1] | rw [W2] | rw [E00] | rw [E20] | rw [E22] | rw [N1] | rw [N0] | rw [B11] | rw [B00] | rw [A11] | rw [Ea] | rw [Eb] | rw [Ec] | rw [Ed] | rw [Ewb] | rw [Ewd])); cbv)
    skip
    obtain ⟨wa, hwa⟩ : ∃ x, 7 * k + v' = x := ⟨_, rfl⟩
    obtain ⟨wb, hwb⟩ : ∃ x, 7 * k + v' + 7 = x := ⟨_, rfl⟩
    have hsw : spanF v' 7 [(0, 7)] k = wa ∧ spanT v' 7 [(0, 7)] k = wb ∧ spanE v' 7 [(0, 7)] k = 0 := by
      have := weeks_at v k
      rw [hv'] at this
      have hV := weeks_vd (v := v) (by omega) (by omega)
      rw [hv'] at hV
      exact span_of hV k _ _ (by rw [this.1]; omega) (by rw [this.2]; omega) (by omega) (by omega)
    have hfi : findB v' 7 [(0, 7)] 0 = true ∧ findN v' 7 [(0, 7)] 0 = 0 := by
      have := weeks_at v 0
      rw [hv'] at this
      have hV := weeks_vd (v := v) (by omega) (by omega)
      rw [hv'] at hV
      have h := find_in (k := 0) (x := 0) hV.back (lineB_iff.2 (by omega)) (by rw [this.1]; omega) (by rw [this.2]; omega)
      exact ⟨h.1, h.2.1⟩
    refine call_go hO hX (span_fn (by omega) (by omega) hsw) (by kernel_rfl) [1] rfl ⟨rfl, rfl, trivial⟩ rfl ?_
    rintro _ _ ⟨rfl, rfl⟩
    clear hsw
    cbv
    refine call_go hO hX (find_fn hfi) (by kernel_rfl) [1] rfl ⟨rfl, rfl, trivial⟩ rfl ?_
    rintro _ _ ⟨rfl, rfl⟩
    clear hfi
    cbv
    have Ewb : O .eq wb (O .add wa 7) = true := by subst hO; simp [std]; omega
    have Ewd : O .eq wd wd = true := by subst hO; simp [std]
    repeat ((first | rw [M1] | rw [M2] | rw [W1] | rw [W2] | rw [E00] | rw [E20] | rw [E22] | rw [N1] | rw [N0] | rw [B11] | rw [B00] | rw [A11] | rw [Ea] | rw [Eb] | rw [Ec] | rw [Ed] | rw [Ewb] | rw [Ewd]); (repeat (first | rw [M1] | rw [M2] | rw [W1] | rw [W2] | rw [E00] | rw [E20] | rw [E22] | rw [N1] | rw [N0] | rw [B11] | rw [B00] | rw [A11] | rw [Ea] | rw [Eb] | rw [Ec] | rw [Ed] | rw [Ewb] | rw [Ewd])); cbv)
    refine ⟨inr_mk hO (by rw [add_e hO]; omega) (by rw [add_e hO]; omega), ?_⟩
    repeat ((first | rw [M1] | rw [M2] | rw [W1] | rw [W2] | rw [E00] | rw [E20] | rw [E22] | rw [N1] | rw [N0] | rw [B11] | rw [B00] | rw [A11] | rw [Ea] | rw [Eb] | rw [Ec] | rw [Ed] | rw [Ewb] | rw [Ewd]); (repeat (first | rw [M1] | rw [M2] | rw [W1] | rw [W2] | rw [E00] | rw [E20] | rw [E22] | rw [N1] | rw [N0] | rw [B11] | rw [B00] | rw [A11] | rw [Ea] | rw [Eb] | rw [Ec] | rw [Ed] | rw [Ewb] | rw [Ewd])); cbv)
    refine call_go hO hX (cweekday_fn (d := wa) (v := wd) (by omega) (by omega) (by omega)) (by kernel_rfl) [] rfl trivial rfl ?_
    rintro _ _ ⟨rfl, rfl⟩
    cbv
    repeat ((first | rw [M1] | rw [M2] | rw [W1] | rw [W2] | rw [E00] | rw [E20] | rw [E22] | rw [N1] | rw [N0] | rw [B11] | rw [B00] | rw [A11] | rw [Ea] | rw [Eb] | rw [Ec] | rw [Ed] | rw [Ewb] | rw [Ewd]); (repeat (first | rw [M1] | rw [M2] | rw [W1] | rw [W2] | rw [E00] | rw [E20] | rw [E22] | rw [N1] | rw [N0] | rw [B11] | rw [B00] | rw [A11] | rw [Ea] | rw [Eb] | rw [Ec] | rw [Ed] | rw [Ewb] | rw [Ewd])); cbv)
    exact fin_plain hX rfl rfl (by cbv) ⟨rfl, rfl⟩
  · rename_i c5
    have c6 := lt_f hO c5
    cbv
    obtain ⟨yr, hyr⟩ : ∃ yr, O .add 1970 q = yr := ⟨_, rfl⟩
    rw [hyr]
    have hyr2 : yr = 1970 + k / 12 := by rw [← hyr, add_e hO]; omega
    have hrs2 : r = k % 12 := by omega
    obtain ⟨r1, hr1⟩ : ∃ r1, O .add r 1 = r1 := ⟨_, rfl⟩
    have hr12 : r1 = k % 12 + 1 := by rw [← hr1, add_e hO]; omega
    rw [hr1]
    refine ⟨inr_mk hO (by omega) (by omega), ?_⟩
    have yb : yearB yr = true := yearB_iff.2 (by omega)
    obtain ⟨a0, ha0⟩ : ∃ a, Mo k = a := ⟨_, rfl⟩
    have hday : dayN yr r1 1 = a0 := by rw [← ha0, Mo, hyr2, hr12]
    refine call_go hO hX (cday_fn yb (by omega) (by omega) hday) (by kernel_rfl) [] rfl trivial rfl ?_
    rintro _ _ ⟨rfl, rfl⟩
    cbv
    refine call_go hO hX (monthsC_fn hP2 hL2) (by kernel_rfl) [] rfl trivial rfl ?_
    rintro _ _ ⟨rfl, rfl⟩
    cbv
    obtain ⟨b0, hb0⟩ : ∃ b, Mo (k + 1) = b := ⟨_, rfl⟩
    have hsm := span_mon (k := k) (by omega) (by omega)
    rw [ha0, hb0, hP2, hL2] at hsm
    refine call_go hO hX (span_fn (by omega) (by omega) hsm) (by kernel_rfl) [3] rfl ⟨rfl, rfl, trivial⟩ rfl ?_
    rintro _ _ ⟨rfl, rfl⟩
    clear hsm
    cbv
    repeat ((first | rw [M1] | rw [M2] | rw [W1] | rw [W2] | rw [E00] | rw [E20] | rw [E22] | rw [N1] | rw [N0] | rw [B11] | rw [B00] | rw [A11] | rw [Ea] | rw [Eb] | rw [Ec] | rw [Ed] | rw [Ewb] | rw [Ewd]); (repeat (first | rw [M1] | rw [M2] | rw [W1] | rw [W2] | rw [E00] | rw [E20] | rw [E22] | rw [N1] | rw [N0] | rw [B11] | rw [B00] | rw [A11] | rw [Ea] | rw [Eb] | rw [Ec] | rw [Ed] | rw [Ewb] | rw [Ewd])); cbv)
    rw [hr1]
    refine ⟨inr_mk hO (by omega) (by omega), ?_⟩
    obtain ⟨ln, hln⟩ : ∃ ln, lenM yr r1 = ln := ⟨_, rfl⟩
    have hnx : O .add a0 ln = b0 := by rw [add_e hO, ← ha0, ← hb0, ← hln, mo_succ (t := k) (by rw [← hyr2]; exact yb), hyr2, hr12]
    refine call_go hO hX (clen_fn yb (by omega) (by omega) hln) (by kernel_rfl) [] rfl trivial rfl ?_
    rintro _ _ ⟨rfl, rfl⟩
    cbv
    rw [hnx]
    have ma : -800000 ≤ a0 ∧ a0 ≤ 3000000 := by rw [← ha0]; exact mo_bd (by omega) (by omega)
    have mb : -800000 ≤ b0 ∧ b0 ≤ 3000000 := by rw [← hb0]; exact mo_bd (by omega) (by omega)
    refine ⟨inr_mk hO (by omega) (by omega), ?_⟩
    have Ea : O .eq a0 a0 = true := by subst hO; simp [std]
    have Eb : O .eq b0 b0 = true := by subst hO; simp [std]
    repeat ((first | rw [M1] | rw [M2] | rw [W1] | rw [W2] | rw [E00] | rw [E20] | rw [E22] | rw [N1] | rw [N0] | rw [B11] | rw [B00] | rw [A11] | rw [Ea] | rw [Eb] | rw [Ec] | rw [Ed] | rw [Ewb] | rw [Ewd]); (repeat (first | rw [M1] | rw [M2] | rw [W1] | rw [W2] | rw [E00] | rw [E20] | rw [E22] | rw [N1] | rw [N0] | rw [B11] | rw [B00] | rw [A11] | rw [Ea] | rw [Eb] | rw [Ec] | rw [Ed] | rw [Ewb] | rw [Ewd])); cbv)
    skip
    obtain ⟨wa, hwa⟩ : ∃ x, 7 * k + v' = x := ⟨_, rfl⟩
    obtain ⟨wb, hwb⟩ : ∃ x, 7 * k + v' + 7 = x := ⟨_, rfl⟩
    have hsw : spanF v' 7 [(0, 7)] k = wa ∧ spanT v' 7 [(0, 7)] k = wb ∧ spanE v' 7 [(0, 7)] k = 0 := by
      have := weeks_at v k
      rw [hv'] at this
      have hV := weeks_vd (v := v) (by omega) (by omega)
      rw [hv'] at hV
      exact span_of hV k _ _ (by rw [this.1]; omega) (by rw [this.2]; omega) (by omega) (by omega)
    have hfi : findB v' 7 [(0, 7)] 0 = true ∧ findN v' 7 [(0, 7)] 0 = 0 := by
      have := weeks_at v 0
      rw [hv'] at this
      have hV := weeks_vd (v := v) (by omega) (by omega)
      rw [hv'] at hV
      have h := find_in (k := 0) (x := 0) hV.back (lineB_iff.2 (by omega)) (by rw [this.1]; omega) (by rw [this.2]; omega)
      exact ⟨h.1, h.2.1⟩
    refine call_go hO hX (span_fn (by omega) (by omega) hsw) (by kernel_rfl) [1] rfl ⟨rfl, rfl, trivial⟩ rfl ?_
    rintro _ _ ⟨rfl, rfl⟩
    clear hsw
    cbv
    refine call_go hO hX (find_fn hfi) (by kernel_rfl) [1] rfl ⟨rfl, rfl, trivial⟩ rfl ?_
    rintro _ _ ⟨rfl, rfl⟩
    clear hfi
    cbv
    have Ewb : O .eq wb (O .add wa 7) = true := by subst hO; simp [std]; omega
    have Ewd : O .eq wd wd = true := by subst hO; simp [std]
    repeat ((first | rw [M1] | rw [M2] | rw [W1] | rw [W2] | rw [E00] | rw [E20] | rw [E22] | rw [N1] | rw [N0] | rw [B11] | rw [B00] | rw [A11] | rw [Ea] | rw [Eb] | rw [Ec] | rw [Ed] | rw [Ewb] | rw [Ewd]); (repeat (first | rw [M1] | rw [M2] | rw [W1] | rw [W2] | rw [E00] | rw [E20] | rw [E22] | rw [N1] | rw [N0] | rw [B11] | rw [B00] | rw [A11] | rw [Ea] | rw [Eb] | rw [Ec] | rw [Ed] | rw [Ewb] | rw [Ewd])); cbv)
    refine ⟨inr_mk hO (by rw [add_e hO]; omega) (by rw [add_e hO]; omega), ?_⟩
    repeat ((first | rw [M1] | rw [M2] | rw [W1] | rw [W2] | rw [E00] | rw [E20] | rw [E22] | rw [N1] | rw [N0] | rw [B11] | rw [B00] | rw [A11] | rw [Ea] | rw [Eb] | rw [Ec] | rw [Ed] | rw [Ewb] | rw [Ewd]); (repeat (first | rw [M1] | rw [M2] | rw [W1] | rw [W2] | rw [E00] | rw [E20] | rw [E22] | rw [N1] | rw [N0] | rw [B11] | rw [B00] | rw [A11] | rw [Ea] | rw [Eb] | rw [Ec] | rw [Ed] | rw [Ewb] | rw [Ewd])); cbv)
    refine call_go hO hX (cweekday_fn (d := wa) (v := wd) (by omega) (by omega) (by omega)) (by kernel_rfl) [] rfl trivial rfl ?_
    rintro _ _ ⟨rfl, rfl⟩
    cbv
    repeat ((first | rw [M1] | rw [M2] | rw [W1] | rw [W2] | rw [E00] | rw [E20] | rw [E22] | rw [N1] | rw [N0] | rw [B11] | rw [B00] | rw [A11] | rw [Ea] | rw [Eb] | rw [Ec] | rw [Ed] | rw [Ewb] | rw [Ewd]); (repeat (first | rw [M1] | rw [M2] | rw [W1] | rw [W2] | rw [E00] | rw [E20] | rw [E22] | rw [N1] | rw [N0] | rw [B11] | rw [B00] | rw [A11] | rw [Ea] | rw [Eb] | rw [Ec] | rw [Ed] | rw [Ewb] | rw [Ewd])); cbv)
    exact fin_plain hX rfl rfl (by cbv) ⟨rfl, rfl⟩

set_option maxHeartbeats 40000000 in
theorem civil_00 {k n : Int} (hk1 : -9223372036854775808 ≤ k) (hk2 : k ≤ 9223372036854775807) (hn : 0 ≤ n ∧ n ≤ 255) (hm : n % 14 = 0) (hw : n % 9 = 0) : Fn Try.prog 10 [.c (.int .i64 k), .c (.int .u8 n)] [] (fun v c => v = .c (.bool true) ∧ c = []) := by
  refine fn_run tab_holds eqs_holds mixed [(15, [(1, [0, 1, 2, 3, 4, 5, 6, 7, 8, 9, 10, 11, 12]), (2, [13]), (1, [14, 15, 16, 17])], [])] Try.func10 (by kernel_rfl) (by kernel_rfl) (by decide) ?_
  intro O X hO hX
  cbv
  refine call_go hO hX awake_fn (by kernel_rfl) [] rfl trivial rfl ?_
  rintro _ _ ⟨rfl, rfl⟩
  cbv
  rw [(not_lit hO).1]
  cbv
  obtain ⟨mo, hmo⟩ : ∃ mo, O .rem n 14 = mo := ⟨_, rfl⟩
  obtain ⟨wd, hwd⟩ : ∃ wd, O .rem n 9 = wd := ⟨_, rfl⟩
  rw [hmo, hwd]
  have hmo1 : 0 ≤ mo ∧ mo ≤ 13 := by rw [← hmo, rem_e hO, Int.tmod_eq_emod_of_nonneg hn.1]; omega
  have hwd1 : 0 ≤ wd ∧ wd ≤ 8 := by rw [← hwd, rem_e hO, Int.tmod_eq_emod_of_nonneg hn.1]; omega
  have hmoe : n % 14 = mo := by rw [← hmo, rem_e hO, Int.tmod_eq_emod_of_nonneg hn.1]
  have hwde : n % 9 = wd := by rw [← hwd, rem_e hO, Int.tmod_eq_emod_of_nonneg hn.1]
  clear hmo hwd
  rw [hmoe] at hm
  rw [hwde] at hw
  have E00 : O .eq 0 0 = true := by subst hO; rfl
  have E20 : O .eq 2 0 = false := by subst hO; rfl
  have E22 : O .eq 2 2 = true := by subst hO; rfl
  have N1 := (not_lit hO).1
  have N0 := (not_lit hO).2
  have B11 : O .beq true true = true := by subst hO; rfl
  have B00 : O .beq false false = true := by subst hO; rfl
  have A11 : O .and true true = true := by subst hO; rfl
  refine ⟨inr_mk hO (by omega) (by omega), nz_mk hO (by omega), inr_mk hO (by omega) (by omega), nz_mk hO (by omega), ?_⟩
  obtain ⟨P2, hP2⟩ : ∃ P, ofP monP monS = P := ⟨_, rfl⟩
  obtain ⟨L2, hL2⟩ : ∃ L, ofL monP monS = L := ⟨_, rfl⟩
  have M1 : O .le 1 mo = false := by subst hO; simp [std]; omega
  refine call_go hO hX (years_no (first := mo) (by omega)) (by kernel_rfl) [] rfl trivial rfl ?_
  rintro _ _ ⟨rfl, rfl⟩
  cbv
  have W1 : O .le 1 wd = false := by subst hO; simp [std]; omega
  refine call_go hO hX (weeks_no (first := wd) (by omega)) (by kernel_rfl) [] rfl trivial rfl ?_
  rintro _ _ ⟨rfl, rfl⟩
  cbv
  repeat ((first | rw [M1] | rw [M2] | rw [W1] | rw [W2] | rw [E00] | rw [E20] | rw [E22] | rw [N1] | rw [N0] | rw [B11] | rw [B00] | rw [A11] | rw [Ea] | rw [Eb] | rw [Ec] | rw [Ed] | rw [Ewb] | rw [Ewd]); (repeat (first | rw [M1] | rw [M2] | rw [W1] | rw [W2] | rw [E00] | rw [E20] | rw [E22] | rw [N1] | rw [N0] | rw [B11] | rw [B00] | rw [A11] | rw [Ea] | rw [Eb] | rw [Ec] | rw [Ed] | rw [Ewb] | rw [Ewd])); cbv)
  split
  · rename_i c1
    cbv
    exact fin_plain hX rfl rfl (by cbv) ⟨rfl, rfl⟩
  rename_i c1
  have c2 := lt_f hO c1
  cbv
  split
  · rename_i c3
    cbv
    exact fin_plain hX rfl rfl (by cbv) ⟨rfl, rfl⟩
  rename_i c3
  have c4 := le_f hO c3
  cbv
  obtain ⟨q, hq⟩ : ∃ q, O .quo k 12 = q := ⟨_, rfl⟩
  obtain ⟨r, hr⟩ : ∃ r, O .rem k 12 = r := ⟨_, rfl⟩
  rw [hq, hr]
  rw [quo_e hO] at hq
  rw [rem_e hO] at hr
  have hqr := tq_parts k
  rw [hq, hr] at hqr
  refine ⟨nz_mk hO (by omega), inr_mk hO (by omega) (by omega), inr_mk hO (by rw [add_e hO]; omega) (by rw [add_e hO]; omega), nz_mk hO (by omega), ?_⟩
  split
  · rename_i c5
    have c6 := lt_t hO c5
    cbv
    obtain ⟨yr, hyr⟩ : ∃ yr, O .sub (O .add 1970 q) 1 = yr := ⟨_, rfl⟩
    obtain ⟨rs, hrs⟩ : ∃ rs, O .add r 12 = rs := ⟨_, rfl⟩
    rw [hyr, hrs]
    have hyr2 : yr = 1970 + k / 12 := by rw [← hyr, sub_e hO, add_e hO]; omega
    have hrs2 : rs = k % 12 := by rw [← hrs, add_e hO]; omega
    refine ⟨inr_mk hO (by omega) (by omega), inr_mk hO (by omega) (by omega), ?_⟩
    obtain ⟨r1, hr1⟩ : ∃ r1, O .add rs 1 = r1 := ⟨_, rfl⟩
    have hr12 : r1 = k % 12 + 1 := by rw [← hr1, add_e hO]; omega
    rw [hr1]
    refine ⟨inr_mk hO (by omega) (by omega), ?_⟩
    have yb : yearB yr = true := yearB_iff.2 (by omega)
    obtain ⟨a0, ha0⟩ : ∃ a, Mo k = a := ⟨_, rfl⟩
    have hday : dayN yr r1 1 = a0 := by rw [← ha0, Mo, hyr2, hr12]
    refine call_go hO hX (cday_fn yb (by omega) (by omega) hday) (by kernel_rfl) [] rfl trivial rfl ?_
    rintro _ _ ⟨rfl, rfl⟩
    cbv
    refine call_go hO hX (monthsC_fn hP2 hL2) (by kernel_rfl) [] rfl trivial rfl ?_
    rintro _ _ ⟨rfl, rfl⟩
    cbv
    obtain ⟨b0, hb0⟩ : ∃ b, Mo (k + 1) = b := ⟨_, rfl⟩
    have hsm := span_mon (k := k) (by omega) (by omega)
    rw [ha0, hb0, hP2, hL2] at hsm
    refine call_go hO hX (span_fn (by omega) (by omega) hsm) (by kernel_rfl) [2] rfl ⟨rfl, rfl, trivial⟩ rfl ?_
    rintro _ _ ⟨rfl, rfl⟩
    clear hsm
    cbv
    repeat ((first | rw [M1] | rw [M2] | rw [W1] | rw [W2] | rw [E00] | rw [E20] | rw [E22] | rw [N1] | rw [N0] | rw [B11] | rw [B00] | rw [A11] | rw [Ea] | rw [Eb] | rw [Ec] | rw [Ed] | rw [Ewb] | rw [Ewd]); (repeat (first | rw [M1] | rw [M2] | rw [W1] | rw [W2] | rw [E00] | rw [E20] | rw [E22] | rw [N1] | rw [N0] | rw [B11] | rw [B00] | rw [A11] | rw [Ea] | rw [Eb] | rw [Ec] | rw [Ed] | rw [Ewb] | rw [Ewd])); cbv)
    rw [hr1]
    refine ⟨inr_mk hO (by omega) (by omega), ?_⟩
    obtain ⟨ln, hln⟩ : ∃ ln, lenM yr r1 = ln := ⟨_, rfl⟩
    have hnx : O .add a0 ln = b0 := by rw [add_e hO, ← ha0, ← hb0, ← hln, mo_succ (t := k) (by rw [← hyr2]; exact yb), hyr2, hr12]
    refine call_go hO hX (clen_fn yb (by omega) (by omega) hln) (by kernel_rfl) [] rfl trivial rfl ?_
    rintro _ _ ⟨rfl, rfl⟩
    cbv
    rw [hnx]
    have ma : -800000 ≤ a0 ∧ a0 ≤ 3000000 := by rw [← ha0]; exact mo_bd (by omega) (by omega)
    have mb : -800000 ≤ b0 ∧ b0 ≤ 3000000 := by rw [← hb0]; exact mo_bd (by omega) (by omega)
    refine ⟨inr_mk hO (by omega) (by omega), ?_⟩
    have Ea : O .eq a0 a0 = true := by subst hO; simp [std]
    have Eb : O .eq b0 b0 = true := by subst hO; simp [std]
    repeat ((first | rw [M1] | rw [M2] | rw [W1] | rw [W2] | rw [E00] | rw [E20] | rw [E22] | rw [N1] | rw [N0] | rw [B11] | rw [B00] | rw [A11] | rw [Ea] | rw [Eb] | rw [Ec] | rw [Ed] | rw [Ewb] | rw [Ewd]); (repeat (first | rw [M1] | rw [M2] | rw [W1] | rw [W2] | rw [E00] | rw [E20] | rw [E22] | rw [N1] | rw [N0] | rw [B11] | rw [B00] | rw [A11] | rw [Ea] | rw [Eb] | rw [Ec] | rw [Ed] | rw [Ewb] | rw [Ewd])); cbv)
    skip
    exact fin_plain hX rfl rfl (by cbv) ⟨rfl, rfl⟩
  · rename_i c5
    have c6 := lt_f hO c5
    cbv
    obtain ⟨yr, hyr⟩ : ∃ yr, O .add 1970 q = yr := ⟨_, rfl⟩
    rw [hyr]
    have hyr2 : yr = 1970 + k / 12 := by rw [← hyr, add_e hO]; omega
    have hrs2 : r = k % 12 := by omega
    obtain ⟨r1, hr1⟩ : ∃ r1, O .add r 1 = r1 := ⟨_, rfl⟩
    have hr12 : r1 = k % 12 + 1 := by rw [← hr1, add_e hO]; omega
    rw [hr1]
    refine ⟨inr_mk hO (by omega) (by omega), ?_⟩
    have yb : yearB yr = true := yearB_iff.2 (by omega)
    obtain ⟨a0, ha0⟩ : ∃ a, Mo k = a := ⟨_, rfl⟩
    have hday : dayN yr r1 1 = a0 := by rw [← ha0, Mo, hyr2, hr12]
    refine call_go hO hX (cday_fn yb (by omega) (by omega) hday) (by kernel_rfl) [] rfl trivial rfl ?_
    rintro _ _ ⟨rfl, rfl⟩
    cbv
    refine call_go hO hX (monthsC_fn hP2 hL2) (by kernel_rfl) [] rfl trivial rfl ?_
    rintro _ _ ⟨rfl, rfl⟩
    cbv
    obtain ⟨b0, hb0⟩ : ∃ b, Mo (k + 1) = b := ⟨_, rfl⟩
    have hsm := span_mon (k := k) (by omega) (by omega)
    rw [ha0, hb0, hP2, hL2] at hsm
    refine call_go hO hX (span_fn (by omega) (by omega) hsm) (by kernel_rfl) [2] rfl ⟨rfl, rfl, trivial⟩ rfl ?_
    rintro _ _ ⟨rfl, rfl⟩
    clear hsm
    cbv
    repeat ((first | rw [M1] | rw [M2] | rw [W1] | rw [W2] | rw [E00] | rw [E20] | rw [E22] | rw [N1] | rw [N0] | rw [B11] | rw [B00] | rw [A11] | rw [Ea] | rw [Eb] | rw [Ec] | rw [Ed] | rw [Ewb] | rw [Ewd]); (repeat (first | rw [M1] | rw [M2] | rw [W1] | rw [W2] | rw [E00] | rw [E20] | rw [E22] | rw [N1] | rw [N0] | rw [B11] | rw [B00] | rw [A11] | rw [Ea] | rw [Eb] | rw [Ec] | rw [Ed] | rw [Ewb] | rw [Ewd])); cbv)
    rw [hr1]
    refine ⟨inr_mk hO (by omega) (by omega), ?_⟩
    obtain ⟨ln, hln⟩ : ∃ ln, lenM yr r1 = ln := ⟨_, rfl⟩
    have hnx : O .add a0 ln = b0 := by rw [add_e hO, ← ha0, ← hb0, ← hln, mo_succ (t := k) (by rw [← hyr2]; exact yb), hyr2, hr12]
    refine call_go hO hX (clen_fn yb (by omega) (by omega) hln) (by kernel_rfl) [] rfl trivial rfl ?_
    rintro _ _ ⟨rfl, rfl⟩
    cbv
    rw [hnx]
    have ma : -800000 ≤ a0 ∧ a0 ≤ 3000000 := by rw [← ha0]; exact mo_bd (by omega) (by omega)
    have mb : -800000 ≤ b0 ∧ b0 ≤ 3000000 := by rw [← hb0]; exact mo_bd (by omega) (by omega)
    refine ⟨inr_mk hO (by omega) (by omega), ?_⟩
    have Ea : O .eq a0 a0 = true := by subst hO; simp [std]
    have Eb : O .eq b0 b0 = true := by subst hO; simp [std]
    repeat ((first | rw [M1] | rw [M2] | rw [W1] | rw [W2] | rw [E00] | rw [E20] | rw [E22] | rw [N1] | rw [N0] | rw [B11] | rw [B00] | rw [A11] | rw [Ea] | rw [Eb] | rw [Ec] | rw [Ed] | rw [Ewb] | rw [Ewd]); (repeat (first | rw [M1] | rw [M2] | rw [W1] | rw [W2] | rw [E00] | rw [E20] | rw [E22] | rw [N1] | rw [N0] | rw [B11] | rw [B00] | rw [A11] | rw [Ea] | rw [Eb] | rw [Ec] | rw [Ed] | rw [Ewb] | rw [Ewd])); cbv)
    skip
    exact fin_plain hX rfl rfl (by cbv) ⟨rfl, rfl⟩

set_option maxHeartbeats 40000000 in
theorem civil_01 {k n : Int} (hk1 : -9223372036854775808 ≤ k) (hk2 : k ≤ 9223372036854775807) (hn : 0 ≤ n ∧ n ≤ 255) (hm : n % 14 = 0) (hw : n % 9 = 8) : Fn Try.prog 10 [.c (.int .i64 k), .c (.int .u8 n)] [] (fun v c => v = .c (.bool true) ∧ c = []) := by
  refine fn_run tab_holds eqs_holds mixed [(15, [(1, [0, 1, 2, 3, 4, 5, 6, 7, 8, 9, 10, 11, 12]), (2, [13]), (1, [14, 15, 16, 17])], [])] Try.func10 (by kernel_rfl) (by kernel_rfl) (by decide) ?_
  intro O X hO hX
  cbv
  refine call_go hO hX awake_fn (by kernel_rfl) [] rfl trivial rfl ?_
  rintro _ _ ⟨rfl, rfl⟩
  cbv
  rw [(not_lit hO).1]
  cbv
  obtain ⟨mo, hmo⟩ : ∃ mo, O .rem n 14 = mo := ⟨_, rfl⟩
  obtain ⟨wd, hwd⟩ : ∃ wd, O .rem n 9 = wd := ⟨_, rfl⟩
  rw [hmo, hwd]
  have hmo1 : 0 ≤ mo ∧ mo ≤ 13 := by rw [← hmo, rem_e hO, Int.tmod_eq_emod_of_nonneg hn.1]; omega
  have hwd1 : 0 ≤ wd ∧ wd ≤ 8 := by rw [← hwd, rem_e hO, Int.tmod_eq_emod_of_nonneg hn.1]; omega
  have hmoe : n % 14 = mo := by rw [← hmo, rem_e hO, Int.tmod_eq_emod_of_nonneg hn.1]
  have hwde : n % 9 = wd := by rw [← hwd, rem_e hO, Int.tmod_eq_emod_of_nonneg hn.1]
  clear hmo hwd
  rw [hmoe] at hm
  rw [hwde] at hw
  have E00 : O .eq 0 0 = true := by subst hO; rfl
  have E20 : O .eq 2 0 = false := by subst hO; rfl
  have E22 : O .eq 2 2 = true := by subst hO; rfl
  have N1 := (not_lit hO).1
  have N0 := (not_lit hO).2
  have B11 : O .beq true true = true := by subst hO; rfl
  have B00 : O .beq false false = true := by subst hO; rfl
  have A11 : O .and true true = true := by subst hO; rfl
  refine ⟨inr_mk hO (by omega) (by omega), nz_mk hO (by omega), inr_mk hO (by omega) (by omega), nz_mk hO (by omega), ?_⟩
  obtain ⟨P2, hP2⟩ : ∃ P, ofP monP monS = P := ⟨_, rfl⟩
  obtain ⟨L2, hL2⟩ : ∃ L, ofL monP monS = L := ⟨_, rfl⟩
  have M1 : O .le 1 mo = false := by subst hO; simp [std]; omega
  refine call_go hO hX (years_no (first := mo) (by omega)) (by kernel_rfl) [] rfl trivial rfl ?_
  rintro _ _ ⟨rfl, rfl⟩
  cbv
  have W1 : O .le 1 wd = true := by subst hO; simp [std]; omega
  have W2 : O .le wd 7 = false := by subst hO; simp [std]; omega
  refine call_go hO hX (weeks_no (first := wd) (by omega)) (by kernel_rfl) [] rfl trivial rfl ?_
  rintro _ _ ⟨rfl, rfl⟩
  cbv
  repeat ((first | rw [M1] | rw [M2] | rw [W1] | rw [W2] | rw [E00] | rw [E20] | rw [E22] | rw [N1] | rw [N0] | rw [B11] | rw [B00] | rw [A11] | rw [Ea] | rw [Eb] | rw [Ec] | rw [Ed] | rw [Ewb] | rw [Ewd]); (repeat (first | rw [M1] | rw [M2] | rw [W1] | rw [W2] | rw [E00] | rw [E20] | rw [E22] | rw [N1] | rw [N0] | rw [B11] | rw [B00] | rw [A11] | rw [Ea] | rw [Eb] | rw [Ec] | rw [Ed] | rw [Ewb] | rw [Ewd])); cbv)
  split
  · rename_i c1
    cbv
    exact fin_plain hX rfl rfl (by cbv) ⟨rfl, rfl⟩
  rename_i c1
  have c2 := lt_f hO c1
  cbv
  split
  · rename_i c3
    cbv
    exact fin_plain hX rfl rfl (by cbv) ⟨rfl, rfl⟩
  rename_i c3
  have c4 := le_f hO c3
  cbv
  obtain ⟨q, hq⟩ : ∃ q, O .quo k 12 = q := ⟨_, rfl⟩
  obtain ⟨r, hr⟩ : ∃ r, O .rem k 12 = r := ⟨_, rfl⟩
  rw [hq, hr]
  rw [quo_e hO] at hq
  rw [rem_e hO] at hr
  have hqr := tq_parts k
  rw [hq, hr] at hqr
  refine ⟨nz_mk hO (by omega), inr_mk hO (by omega) (by omega), inr_mk hO (by rw [add_e hO]; omega) (by rw [add_e hO]; omega), nz_mk hO (by omega), ?_⟩
  split
  · rename_i c5
    have c6 := lt_t hO c5
    cbv
    obtain ⟨yr, hyr⟩ : ∃ yr, O .sub (O .add 1970 q) 1 = yr := ⟨_, rfl⟩
    obtain ⟨rs, hrs⟩ : ∃ rs, O .add r 12 = rs := ⟨_, rfl⟩
    rw [hyr, hrs]
    have hyr2 : yr = 1970 + k / 12 := by rw [← hyr, sub_e hO, add_e hO]; omega
    have hrs2 : rs = k % 12 := by rw [← hrs, add_e hO]; omega
    refine ⟨inr_mk hO (by omega) (by omega), inr_mk hO (by omega) (by omega), ?_⟩
    obtain ⟨r1, hr1⟩ : ∃ r1, O .add rs 1 = r1 := ⟨_, rfl⟩
    have hr12 : r1 = k % 12 + 1 := by rw [← hr1, add_e hO]; omega
    rw [hr1]
    refine ⟨inr_mk hO (by omega) (by omega), ?_⟩
    have yb : yearB yr = true := yearB_iff.2 (by omega)
    obtain ⟨a0, ha0⟩ : ∃ a, Mo k = a := ⟨_, rfl⟩
    have hday : dayN yr r1 1 = a0 := by rw [← ha0, Mo, hyr2, hr12]
    refine call_go hO hX (cday_fn yb (by omega) (by omega) hday) (by kernel_rfl) [] rfl trivial rfl ?_
    rintro _ _ ⟨rfl, rfl⟩
    cbv
    refine call_go hO hX (monthsC_fn hP2 hL2) (by kernel_rfl) [] rfl trivial rfl ?_
    rintro _ _ ⟨rfl, rfl⟩
    cbv
    obtain ⟨b0, hb0⟩ : ∃ b, Mo (k + 1) = b := ⟨_, rfl⟩
    have hsm := span_mon (k := k) (by omega) (by omega)
    rw [ha0, hb0, hP2, hL2] at hsm
    refine call_go hO hX (span_fn (by omega) (by omega) hsm) (by kernel_rfl) [2] rfl ⟨rfl, rfl, trivial⟩ rfl ?_
    rintro _ _ ⟨rfl, rfl⟩
    clear hsm
    cbv
    repeat ((first | rw [M1] | rw [M2] | rw [W1] | rw [W2] | rw [E00] | rw [E20] | rw [E22] | rw [N1] | rw [N0] | rw [B11] | rw [B00] | rw [A11] | rw [Ea] | rw [Eb] | rw [Ec] | rw [Ed] | rw [Ewb] | rw [Ewd]); (repeat (first | rw [M1] | rw [M2] | rw [W1] | rw [W2] | rw [E00] | rw [E20] | rw [E22] | rw [N1] | rw [N0] | rw [B11] | rw [B00] | rw [A11] | rw [Ea] | rw [Eb] | rw [Ec] | rw [Ed] | rw [Ewb] | rw [Ewd])); cbv)
    rw [hr1]
    refine ⟨inr_mk hO (by omega) (by omega), ?_⟩
    obtain ⟨ln, hln⟩ : ∃ ln, lenM yr r1 = ln := ⟨_, rfl⟩
    have hnx : O .add a0 ln = b0 := by rw [add_e hO, ← ha0, ← hb0, ← hln, mo_succ (t := k) (by rw [← hyr2]; exact yb), hyr2, hr12]
    refine call_go hO hX (clen_fn yb (by omega) (by omega) hln) (by kernel_rfl) [] rfl trivial rfl ?_
    rintro _ _ ⟨rfl, rfl⟩
    cbv
    rw [hnx]
    have ma : -800000 ≤ a0 ∧ a0 ≤ 3000000 := by rw [← ha0]; exact mo_bd (by omega) (by omega)
    have mb : -800000 ≤ b0 ∧ b0 ≤ 3000000 := by rw [← hb0]; exact mo_bd (by omega) (by omega)
    refine ⟨inr_mk hO (by omega) (by omega), ?_⟩
    have Ea : O .eq a0 a0 = true := by subst hO; simp [std]
    have Eb : O .eq b0 b0 = true := by subst hO; simp [std]
    repeat ((first | rw [M1] | rw [M2] | rw [W1] | rw [W2] | rw [E00] | rw [E20] | rw [E22] | rw [N1] | rw [N0] | rw [B11] | rw [B00] | rw [A11] | rw [Ea] | rw [Eb] | rw [Ec] | rw [Ed] | rw [Ewb] | rw [Ewd]); (repeat (first | rw [M1] | rw [M2] | rw [W1] | rw [W2] | rw [E00] | rw [E20] | rw [E22] | rw [N1] | rw [N0] | rw [B11] | rw [B00] | rw [A11] | rw [Ea] | rw [Eb] | rw [Ec] | rw [Ed] | rw [Ewb] | rw [Ewd])); cbv)
    skip
    exact fin_plain hX rfl rfl (by cbv) ⟨rfl, rfl⟩
  · rename_i c5
    have c6 := lt_f hO c5
    cbv
    obtain ⟨yr, hyr⟩ : ∃ yr, O .add 1970 q = yr := ⟨_, rfl⟩
    rw [hyr]
    have hyr2 : yr = 1970 + k / 12 := by rw [← hyr, add_e hO]; omega
    have hrs2 : r = k % 12 := by omega
    obtain ⟨r1, hr1⟩ : ∃ r1, O .add r 1 = r1 := ⟨_, rfl⟩
    have hr12 : r1 = k % 12 + 1 := by rw [← hr1, add_e hO]; omega
    rw [hr1]
    refine ⟨inr_mk hO (by omega) (by omega), ?_⟩
    have yb : yearB yr = true := yearB_iff.2 (by omega)
    obtain ⟨a0, ha0⟩ : ∃ a, Mo k = a := ⟨_, rfl⟩
    have hday : dayN yr r1 1 = a0 := by rw [← ha0, Mo, hyr2, hr12]
    refine call_go hO hX (cday_fn yb (by omega) (by omega) hday) (by kernel_rfl) [] rfl trivial rfl ?_
    rintro _ _ ⟨rfl, rfl⟩
    cbv
    refine call_go hO hX (monthsC_fn hP2 hL2) (by kernel_rfl) [] rfl trivial rfl ?_
    rintro _ _ ⟨rfl, rfl⟩
    cbv
    obtain ⟨b0, hb0⟩ : ∃ b, Mo (k + 1) = b := ⟨_, rfl⟩
    have hsm := span_mon (k := k) (by omega) (by omega)
    rw [ha0, hb0, hP2, hL2] at hsm
    refine call_go hO hX (span_fn (by omega) (by omega) hsm) (by kernel_rfl) [2] rfl ⟨rfl, rfl, trivial⟩ rfl ?_
    rintro _ _ ⟨rfl, rfl⟩
    clear hsm
    cbv
    repeat ((first | rw [M1] | rw [M2] | rw [W1] | rw [W2] | rw [E00] | rw [E20] | rw [E22] | rw [N1] | rw [N0] | rw [B11] | rw [B00] | rw [A11] | rw [Ea] | rw [Eb] | rw [Ec] | rw [Ed] | rw [Ewb] | rw [Ewd]); (repeat (first | rw [M1] | rw [M2] | rw [W1] | rw [W2] | rw [E00] | rw [E20] | rw [E22] | rw [N1] | rw [N0] | rw [B11] | rw [B00] | rw [A11] | rw [Ea] | rw [Eb] | rw [Ec] | rw [Ed] | rw [Ewb] | rw [Ewd])); cbv)
    rw [hr1]
    refine ⟨inr_mk hO (by omega) (by omega), ?_⟩
    obtain ⟨ln, hln⟩ : ∃ ln, lenM yr r1 = ln := ⟨_, rfl⟩
    have hnx : O .add a0 ln = b0 := by rw [add_e hO, ← ha0, ← hb0, ← hln, mo_succ (t := k) (by rw [← hyr2]; exact yb), hyr2, hr12]
    refine call_go hO hX (clen_fn yb (by omega) (by omega) hln) (by kernel_rfl) [] rfl trivial rfl ?_
    rintro _ _ ⟨rfl, rfl⟩
    cbv
    rw [hnx]
    have ma : -800000 ≤ a0 ∧ a0 ≤ 3000000 := by rw [← ha0]; exact mo_bd (by omega) (by omega)
    have mb : -800000 ≤ b0 ∧ b0 ≤ 3000000 := by rw [← hb0]; exact mo_bd (by omega) (by omega)
    refine ⟨inr_mk hO (by omega) (by omega), ?_⟩
    have Ea : O .eq a0 a0 = true := by subst hO; simp [std]
    have Eb : O .eq b0 b0 = true := by subst hO; simp [std]
    repeat ((first | rw [M1] | rw [M2] | rw [W1] | rw [W2] | rw [E00] | rw [E20] | rw [E22] | rw [N1] | rw [N0] | rw [B11] | rw [B00] | rw [A11] | rw [Ea] | rw [Eb] | rw [Ec] | rw [Ed] | rw [Ewb] | rw [Ewd]); (repeat (first | rw [M1] | rw [M2] | rw [W1] | rw [W2] | rw [E00] | rw [E20] | rw [E22] | rw [N1] | rw [N0] | rw [B11] | rw [B00] | rw [A11] | rw [Ea] | rw [Eb] | rw [Ec] | rw [Ed] | rw [Ewb] | rw [Ewd])); cbv)
    skip
    exact fin_plain hX rfl rfl (by cbv) ⟨rfl, rfl⟩

set_option maxHeartbeats 40000000 in
theorem civil_10 {k n : Int} (hk1 : -9223372036854775808 ≤ k) (hk2 : k ≤ 9223372036854775807) (hn : 0 ≤ n ∧ n ≤ 255) (hm : n % 14 = 13) (hw : n % 9 = 0) : Fn Try.prog 10 [.c (.int .i64 k), .c (.int .u8 n)] [] (fun v c => v = .c (.bool true) ∧ c = []) := by
  refine fn_run tab_holds eqs_holds mixed [(15, [(1, [0, 1, 2, 3, 4, 5, 6, 7, 8, 9, 10, 11, 12]), (2, [13]), (1, [14, 15, 16, 17])], [])] Try.func10 (by kernel_rfl) (by kernel_rfl) (by decide) ?_
  intro O X hO hX
  cbv
  refine call_go hO hX awake_fn (by kernel_rfl) [] rfl trivial rfl ?_
  rintro _ _ ⟨rfl, rfl⟩
  cbv
  rw [(not_lit hO).1]
  cbv
  obtain ⟨mo, hmo⟩ : ∃ mo, O .rem n 14 = mo := ⟨_, rfl⟩
  obtain ⟨wd, hwd⟩ : ∃ wd, O .rem n 9 = wd := ⟨_, rfl⟩
  rw [hmo, hwd]
  have hmo1 : 0 ≤ mo ∧ mo ≤ 13 := by rw [← hmo, rem_e hO, Int.tmod_eq_emod_of_nonneg hn.1]; omega
  have hwd1 : 0 ≤ wd ∧ wd ≤ 8 := by rw [← hwd, rem_e hO, Int.tmod_eq_emod_of_nonneg hn.1]; omega
  have hmoe : n % 14 = mo := by rw [← hmo, rem_e hO, Int.tmod_eq_emod_of_nonneg hn.1]
  have hwde : n % 9 = wd := by rw [← hwd, rem_e hO, Int.tmod_eq_emod_of_nonneg hn.1]
  clear hmo hwd
  rw [hmoe] at hm
  rw [hwde] at hw
  have E00 : O .eq 0 0 = true := by subst hO; rfl
  have E20 : O .eq 2 0 = false := by subst hO; rfl
  have E22 : O .eq 2 2 = true := by subst hO; rfl
  have N1 := (not_lit hO).1
  have N0 := (not_lit hO).2
  have B11 : O .beq true true = true := by subst hO; rfl
  have B00 : O .beq false false = true := by subst hO; rfl
  have A11 : O .and true true = true := by subst hO; rfl
  refine ⟨inr_mk hO (by omega) (by omega), nz_mk hO (by omega), inr_mk hO (by omega) (by omega), nz_mk hO (by omega), ?_⟩
  obtain ⟨P2, hP2⟩ : ∃ P, ofP monP monS = P := ⟨_, rfl⟩
  obtain ⟨L2, hL2⟩ : ∃ L, ofL monP monS = L := ⟨_, rfl⟩
  have M1 : O .le 1 mo = true := by subst hO; simp [std]; omega
  have M2 : O .le mo 12 = false := by subst hO; simp [std]; omega
  refine call_go hO hX (years_no (first := mo) (by omega)) (by kernel_rfl) [] rfl trivial rfl ?_
  rintro _ _ ⟨rfl, rfl⟩
  cbv
  have W1 : O .le 1 wd = false := by subst hO; simp [std]; omega
  refine call_go hO hX (weeks_no (first := wd) (by omega)) (by kernel_rfl) [] rfl trivial rfl ?_
  rintro _ _ ⟨rfl, rfl⟩
  cbv
  repeat ((first | rw [M1] | rw [M2] | rw [W1] | rw [W2] | rw [E00] | rw [E20] | rw [E22] | rw [N1] | rw [N0] | rw [B11] | rw [B00] | rw [A11] | rw [Ea] | rw [Eb] | rw [Ec] | rw [Ed] | rw [Ewb] | rw [Ewd]); (repeat (first | rw [M1] | rw [M2] | rw [W1] | rw [W2] | rw [E00] | rw [E20] | rw [E22] | rw [N1] | rw [N0] | rw [B11] | rw [B00] | rw [A11] | rw [Ea] | rw [Eb] | rw [Ec] | rw [Ed] | rw [Ewb] | rw [Ewd])); cbv)
  split
  · rename_i c1
    cbv
    exact fin_plain hX rfl rfl (by cbv) ⟨rfl, rfl⟩
  rename_i c1
  have c2 := lt_f hO c1
  cbv
  split
  · rename_i c3
    cbv
    exact fin_plain hX rfl rfl (by cbv) ⟨rfl, rfl⟩
  rename_i c3
  have c4 := le_f hO c3
  cbv
  obtain ⟨q, hq⟩ : ∃ q, O .quo k 12 = q := ⟨_, rfl⟩
  obtain ⟨r, hr⟩ : ∃ r, O .rem k 12 = r := ⟨_, rfl⟩
  rw [hq, hr]
  rw [quo_e hO] at hq
  rw [rem_e hO] at hr
  have hqr := tq_parts k
  rw [hq, hr] at hqr
  refine ⟨nz_mk hO (by omega), inr_mk hO (by omega) (by omega), inr_mk hO (by rw [add_e hO]; omega) (by rw [add_e hO]; omega), nz_mk hO (by omega), ?_⟩
  split
  · rename_i c5
    have c6 := lt_t hO c5
    cbv
    obtain ⟨yr, hyr⟩ : ∃ yr, O .sub (O .add 1970 q) 1 = yr := ⟨_, rfl⟩
    obtain ⟨rs, hrs⟩ : ∃ rs, O .add r 12 = rs := ⟨_, rfl⟩
    rw [hyr, hrs]
    have hyr2 : yr = 1970 + k / 12 := by rw [← hyr, sub_e hO, add_e hO]; omega
    have hrs2 : rs = k % 12 := by rw [← hrs, add_e hO]; omega
    refine ⟨inr_mk hO (by omega) (by omega), inr_mk hO (by omega) (by omega), ?_⟩
    obtain ⟨r1, hr1⟩ : ∃ r1, O .add rs 1 = r1 := ⟨_, rfl⟩
    have hr12 : r1 = k % 12 + 1 := by rw [← hr1, add_e hO]; omega
    rw [hr1]
    refine ⟨inr_mk hO (by omega) (by omega), ?_⟩
    have yb : yearB yr = true := yearB_iff.2 (by omega)
    obtain ⟨a0, ha0⟩ : ∃ a, Mo k = a := ⟨_, rfl⟩
    have hday : dayN yr r1 1 = a0 := by rw [← ha0, Mo, hyr2, hr12]
    refine call_go hO hX (cday_fn yb (by omega) (by omega) hday) (by kernel_rfl) [] rfl trivial rfl ?_
    rintro _ _ ⟨rfl, rfl⟩
    cbv
    refine call_go hO hX (monthsC_fn hP2 hL2) (by kernel_rfl) [] rfl trivial rfl ?_
    rintro _ _ ⟨rfl, rfl⟩
    cbv
    obtain ⟨b0, hb0⟩ : ∃ b, Mo (k + 1) = b := ⟨_, rfl⟩
    have hsm := span_mon (k := k) (by omega) (by omega)
    rw [ha0, hb0, hP2, hL2] at hsm
    refine call_go hO hX (span_fn (by omega) (by omega) hsm) (by kernel_rfl) [2] rfl ⟨rfl, rfl, trivial⟩ rfl ?_
    rintro _ _ ⟨rfl, rfl⟩
    clear hsm
    cbv
    repeat ((first | rw [M1] | rw [M2] | rw [W1] | rw [W2] | rw [E00] | rw [E20] | rw [E22] | rw [N1] | rw [N0] | rw [B11] | rw [B00] | rw [A11] | rw [Ea] | rw [Eb] | rw [Ec] | rw [Ed] | rw [Ewb] | rw [Ewd]); (repeat (first | rw [M1] | rw [M2] | rw [W1] | rw [W2] | rw [E00] | rw [E20] | rw [E22] | rw [N1] | rw [N0] | rw [B11] | rw [B00] | rw [A11] | rw [Ea] | rw [Eb] | rw [Ec] | rw [Ed] | rw [Ewb] | rw [Ewd])); cbv)
    rw [hr1]
    refine ⟨inr_mk hO (by omega) (by omega), ?_⟩
    obtain ⟨ln, hln⟩ : ∃ ln, lenM yr r1 = ln := ⟨_, rfl⟩
    have hnx : O .add a0 ln = b0 := by rw [add_e hO, ← ha0, ← hb0, ← hln, mo_succ (t := k) (by rw [← hyr2]; exact yb), hyr2, hr12]
    refine call_go hO hX (clen_fn yb (by omega) (by omega) hln) (by kernel_rfl) [] rfl trivial rfl ?_
    rintro _ _ ⟨rfl, rfl⟩
    cbv
    rw [hnx]
    have ma : -800000 ≤ a0 ∧ a0 ≤ 3000000 := by rw [← ha0]; exact mo_bd (by omega) (by omega)
    have mb : -800000 ≤ b0 ∧ b0 ≤ 3000000 := by rw [← hb0]; exact mo_bd (by omega) (by omega)
    refine ⟨inr_mk hO (by omega) (by omega), ?_⟩
    have Ea : O .eq a0 a0 = true := by subst hO; simp [std]
    have Eb : O .eq b0 b0 = true := by subst hO; simp [std]
    repeat ((first | rw [M1] | rw [M2] | rw [W1] | rw [W2] | rw [E00] | rw [E20] | rw [E22] | rw [N1] | rw [N0] | rw [B11] | rw [B00] | rw [A11] | rw [Ea] | rw [Eb] | rw [Ec] | rw [Ed] | rw [Ewb] | rw [Ewd]); (repeat (first | rw [M1] | rw [M2] | rw [W1] | rw [W2] | rw [E00] | rw [E20] | rw [E22] | rw [N1] | rw [N0] | rw [B11] | rw [B00] | rw [A11] | rw [Ea] | rw [Eb] | rw [Ec] | rw [Ed] | rw [Ewb] | rw [Ewd])); cbv)
    skip
    exact fin_plain hX rfl rfl (by cbv) ⟨rfl, rfl⟩
  · rename_i c5
    have c6 := lt_f hO c5
    cbv
    obtain ⟨yr, hyr⟩ : ∃ yr, O .add 1970 q = yr := ⟨_, rfl⟩
    rw [hyr]
    have hyr2 : yr = 1970 + k / 12 := by rw [← hyr, add_e hO]; omega
    have hrs2 : r = k % 12 := by omega
    obtain ⟨r1, hr1⟩ : ∃ r1, O .add r 1 = r1 := ⟨_, rfl⟩
    have hr12 : r1 = k % 12 + 1 := by rw [← hr1, add_e hO]; omega
    rw [hr1]
    refine ⟨inr_mk hO (by omega) (by omega), ?_⟩
    have yb : yearB yr = true := yearB_iff.2 (by omega)
    obtain ⟨a0, ha0⟩ : ∃ a, Mo k = a := ⟨_, rfl⟩
    have hday : dayN yr r1 1 = a0 := by rw [← ha0, Mo, hyr2, hr12]
    refine call_go hO hX (cday_fn yb (by omega) (by omega) hday) (by kernel_rfl) [] rfl trivial rfl ?_
    rintro _ _ ⟨rfl, rfl⟩
    cbv
    refine call_go hO hX (monthsC_fn hP2 hL2) (by kernel_rfl) [] rfl trivial rfl ?_
    rintro _ _ ⟨rfl, rfl⟩
    cbv
    obtain ⟨b0, hb0⟩ : ∃ b, Mo (k + 1) = b := ⟨_, rfl⟩
    have hsm := span_mon (k := k) (by omega) (by omega)
    rw [ha0, hb0, hP2, hL2] at hsm
    refine call_go hO hX (span_fn (by omega) (by omega) hsm) (by kernel_rfl) [2] rfl ⟨rfl, rfl, trivial⟩ rfl ?_
    rintro _ _ ⟨rfl, rfl⟩
    clear hsm
    cbv
    repeat ((first | rw [M1] | rw [M2] | rw [W1] | rw [W2] | rw [E00] | rw [E20] | rw [E22] | rw [N1] | rw [N0] | rw [B11] | rw [B00] | rw [A11] | rw [Ea] | rw [Eb] | rw [Ec] | rw [Ed] | rw [Ewb] | rw [Ewd]); (repeat (first | rw [M1] | rw [M2] | rw [W1] | rw [W2] | rw [E00] | rw [E20] | rw [E22] | rw [N1] | rw [N0] | rw [B11] | rw [B00] | rw [A11] | rw [Ea] | rw [Eb] | rw [Ec] | rw [Ed] | rw [Ewb] | rw [Ewd])); cbv)
    rw [hr1]
    refine ⟨inr_mk hO (by omega) (by omega), ?_⟩
    obtain ⟨ln, hln⟩ : ∃ ln, lenM yr r1 = ln := ⟨_, rfl⟩
    have hnx : O .add a0 ln = b0 := by rw [add_e hO, ← ha0, ← hb0, ← hln, mo_succ (t := k) (by rw [← hyr2]; exact yb), hyr2, hr12]
    refine call_go hO hX (clen_fn yb (by omega) (by omega) hln) (by kernel_rfl) [] rfl trivial rfl ?_
    rintro _ _ ⟨rfl, rfl⟩
    cbv
    rw [hnx]
    have ma : -800000 ≤ a0 ∧ a0 ≤ 3000000 := by rw [← ha0]; exact mo_bd (by omega) (by omega)
    have mb : -800000 ≤ b0 ∧ b0 ≤ 3000000 := by rw [← hb0]; exact mo_bd (by omega) (by omega)
    refine ⟨inr_mk hO (by omega) (by omega), ?_⟩
    have Ea : O .eq a0 a0 = true := by subst hO; simp [std]
    have Eb : O .eq b0 b0 = true := by subst hO; simp [std]
    repeat ((first | rw [M1] | rw [M2] | rw [W1] | rw [W2] | rw [E00] | rw [E20] | rw [E22] | rw [N1] | rw [N0] | rw [B11] | rw [B00] | rw [A11] | rw [Ea] | rw [Eb] | rw [Ec] | rw [Ed] | rw [Ewb] | rw [Ewd]); (repeat (first | rw [M1] | rw [M2] | rw [W1] | rw [W2] | rw [E00] | rw [E20] | rw [E22] | rw [N1] | rw [N0] | rw [B11] | rw [B00] | rw [A11] | rw [Ea] | rw [Eb] | rw [Ec] | rw [Ed] | rw [Ewb] | rw [Ewd])); cbv)
    skip
    exact fin_plain hX rfl rfl (by cbv) ⟨rfl, rfl⟩

set_option maxHeartbeats 40000000 in
theorem civil_11 {k n : Int} (hk1 : -9223372036854775808 ≤ k) (hk2 : k ≤ 9223372036854775807) (hn : 0 ≤ n ∧ n ≤ 255) (hm : n % 14 = 13) (hw : n % 9 = 8) : Fn Try.prog 10 [.c (.int .i64 k), .c (.int .u8 n)] [] (fun v c => v = .c (.bool true) ∧ c = []) := by
  refine fn_run tab_holds eqs_holds mixed [(15, [(1, [0, 1, 2, 3, 4, 5, 6, 7, 8, 9, 10, 11, 12]), (2, [13]), (1, [14, 15, 16, 17])], [])] Try.func10 (by kernel_rfl) (by kernel_rfl) (by decide) ?_
  intro O X hO hX
  cbv
  refine call_go hO hX awake_fn (by kernel_rfl) [] rfl trivial rfl ?_
  rintro _ _ ⟨rfl, rfl⟩
  cbv
  rw [(not_lit hO).1]
  cbv
  obtain ⟨mo, hmo⟩ : ∃ mo, O .rem n 14 = mo := ⟨_, rfl⟩
  obtain ⟨wd, hwd⟩ : ∃ wd, O .rem n 9 = wd := ⟨_, rfl⟩
  rw [hmo, hwd]
  have hmo1 : 0 ≤ mo ∧ mo ≤ 13 := by rw [← hmo, rem_e hO, Int.tmod_eq_emod_of_nonneg hn.1]; omega
  have hwd1 : 0 ≤ wd ∧ wd ≤ 8 := by rw [← hwd, rem_e hO, Int.tmod_eq_emod_of_nonneg hn.1]; omega
  have hmoe : n % 14 = mo := by rw [← hmo, rem_e hO, Int.tmod_eq_emod_of_nonneg hn.1]
  have hwde : n % 9 = wd := by rw [← hwd, rem_e hO, Int.tmod_eq_emod_of_nonneg hn.1]
  clear hmo hwd
  rw [hmoe] at hm
  rw [hwde] at hw
  have E00 : O .eq 0 0 = true := by subst hO; rfl
  have E20 : O .eq 2 0 = false := by subst hO; rfl
  have E22 : O .eq 2 2 = true := by subst hO; rfl
  have N1 := (not_lit hO).1
  have N0 := (not_lit hO).2
  have B11 : O .beq true true = true := by subst hO; rfl
  have B00 : O .beq false false = true := by subst hO; rfl
  have A11 : O .and true true = true := by subst hO; rfl
  refine ⟨inr_mk hO (by omega) (by omega), nz_mk hO (by omega), inr_mk hO (by omega) (by omega), nz_mk hO (by omega), ?_⟩
  obtain ⟨P2, hP2⟩ : ∃ P, ofP monP monS = P := ⟨_, rfl⟩
  obtain ⟨L2, hL2⟩ : ∃ L, ofL monP monS = L := ⟨_, rfl⟩
  have M1 : O .le 1 mo = true := by subst hO; simp [std]; omega
  have M2 : O .le mo 12 = false := by subst hO; simp [std]; omega
  refine call_go hO hX (years_no (first := mo) (by omega)) (by kernel_rfl) [] rfl trivial rfl ?_
  rintro _ _ ⟨rfl, rfl⟩
  cbv
  have W1 : O .le 1 wd = true := by subst hO; simp [std]; omega
  have W2 : O .le wd 7 = false := by subst hO; simp [std]; omega
  refine call_go hO hX (weeks_no (first := wd) (by omega)) (by kernel_rfl) [] rfl trivial rfl ?_
  rintro _ _ ⟨rfl, rfl⟩
  cbv
  repeat ((first | rw [M1] | rw [M2] | rw [W1] | rw [W2] | rw [E00] | rw [E20] | rw [E22] | rw [N1] | rw [N0] | rw [B11] | rw [B00] | rw [A11] | rw [Ea] | rw [Eb] | rw [Ec] | rw [Ed] | rw [Ewb] | rw [Ewd]); (repeat (first | rw [M1] | rw [M2] | rw [W1] | rw [W2] | rw [E00] | rw [E20] | rw [E22] | rw [N1] | rw [N0] | rw [B11] | rw [B00] | rw [A11] | rw [Ea] | rw [Eb] | rw [Ec] | rw [Ed] | rw [Ewb] | rw [Ewd])); cbv)
  split
  · rename_i c1
    cbv
    exact fin_plain hX rfl rfl (by cbv) ⟨rfl, rfl⟩
  rename_i c1
  have c2 := lt_f hO c1
  cbv
  split
  · rename_i c3
    cbv
    exact fin_plain hX rfl rfl (by cbv) ⟨rfl, rfl⟩
  rename_i c3
  have c4 := le_f hO c3
  cbv
  obtain ⟨q, hq⟩ : ∃ q, O .quo k 12 = q := ⟨_, rfl⟩
  obtain ⟨r, hr⟩ : ∃ r, O .rem k 12 = r := ⟨_, rfl⟩
  rw [hq, hr]
  rw [quo_e hO] at hq
  rw [rem_e hO] at hr
  have hqr := tq_parts k
  rw [hq, hr] at hqr
  refine ⟨nz_mk hO (by omega), inr_mk hO (by omega) (by omega), inr_mk hO (by rw [add_e hO]; omega) (by rw [add_e hO]; omega), nz_mk hO (by omega), ?_⟩
  split
  · rename_i c5
    have c6 := lt_t hO c5
    cbv
    obtain ⟨yr, hyr⟩ : ∃ yr, O .sub (O .add 1970 q) 1 = yr := ⟨_, rfl⟩
    obtain ⟨rs, hrs⟩ : ∃ rs, O .add r 12 = rs := ⟨_, rfl⟩
    rw [hyr, hrs]
    have hyr2 : yr = 1970 + k / 12 := by rw [← hyr, sub_e hO, add_e hO]; omega
    have hrs2 : rs = k % 12 := by rw [← hrs, add_e hO]; omega
    refine ⟨inr_mk hO (by omega) (by omega), inr_mk hO (by omega) (by omega), ?_⟩
    obtain ⟨r1, hr1⟩ : ∃ r1, O .add rs 1 = r1 := ⟨_, rfl⟩
    have hr12 : r1 = k % 12 + 1 := by rw [← hr1, add_e hO]; omega
    rw [hr1]
    refine ⟨inr_mk hO (by omega) (by omega), ?_⟩
    have yb : yearB yr = true := yearB_iff.2 (by omega)
    obtain ⟨a0, ha0⟩ : ∃ a, Mo k = a := ⟨_, rfl⟩
    have hday : dayN yr r1 1 = a0 := by rw [← ha0, Mo, hyr2, hr12]
    refine call_go hO hX (cday_fn yb (by omega) (by omega) hday) (by kernel_rfl) [] rfl trivial rfl ?_
    rintro _ _ ⟨rfl, rfl⟩
    cbv
    refine call_go hO hX (monthsC_fn hP2 hL2) (by kernel_rfl) [] rfl trivial rfl ?_
    rintro _ _ ⟨rfl, rfl⟩
    cbv
    obtain ⟨b0, hb0⟩ : ∃ b, Mo (k + 1) = b := ⟨_, rfl⟩
    have hsm := span_mon (k := k) (by omega) (by omega)
    rw [ha0, hb0, hP2, hL2] at hsm
    refine call_go hO hX (span_fn (by omega) (by omega) hsm) (by kernel_rfl) [2] rfl ⟨rfl, rfl, trivial⟩ rfl ?_
    rintro _ _ ⟨rfl, rfl⟩
    clear hsm
    cbv
    repeat ((first | rw [M1] | rw [M2] | rw [W1] | rw [W2] | rw [E00] | rw [E20] | rw [E22] | rw [N1] | rw [N0] | rw [B11] | rw [B00] | rw [A11] | rw [Ea] | rw [Eb] | rw [Ec] | rw [Ed] | rw [Ewb] | rw [Ewd]); (repeat (first | rw [M1] | rw [M2] | rw [W1] | rw [W2] | rw [E00] | rw [E20] | rw [E22] | rw [N1] | rw [N0] | rw [B11] | rw [B00] | rw [A11] | rw [Ea] | rw [Eb] | rw [Ec] | rw [Ed] | rw [Ewb] | rw [Ewd])); cbv)
    rw [hr1]
    refine ⟨inr_mk hO (by omega) (by omega), ?_⟩
    obtain ⟨ln, hln⟩ : ∃ ln, lenM yr r1 = ln := ⟨_, rfl⟩
    have hnx : O .add a0 ln = b0 := by rw [add_e hO, ← ha0, ← hb0, ← hln, mo_succ (t := k) (by rw [← hyr2]; exact yb), hyr2, hr12]
    refine call_go hO hX (clen_fn yb (by omega) (by omega) hln) (by kernel_rfl) [] rfl trivial rfl ?_
    rintro _ _ ⟨rfl, rfl⟩
    cbv
    rw [hnx]
    have ma : -800000 ≤ a0 ∧ a0 ≤ 3000000 := by rw [← ha0]; exact mo_bd (by omega) (by omega)
    have mb : -800000 ≤ b0 ∧ b0 ≤ 3000000 := by rw [← hb0]; exact mo_bd (by omega) (by omega)
    refine ⟨inr_mk hO (by omega) (by omega), ?_⟩
    have Ea : O .eq a0 a0 = true := by subst hO; simp [std]
    have Eb : O .eq b0 b0 = true := by subst hO; simp [std]
    repeat ((first | rw [M1] | rw [M2] | rw [W1] | rw [W2] | rw [E00] | rw [E20] | rw [E22] | rw [N1] | rw [N0] | rw [B11] | rw [B00] | rw [A11] | rw [Ea] | rw [Eb] | rw [Ec] | rw [Ed] | rw [Ewb] | rw [Ewd]); (repeat (first | rw [M1] | rw [M2] | rw [W1] | rw [W2] | rw [E00] | rw [E20] | rw [E22] | rw [N1] | rw [N0] | rw [B11] | rw [B00] | rw [A11] | rw [Ea] | rw [Eb] | rw [Ec] | rw [Ed] | rw [Ewb] | rw [Ewd])); cbv)
    skip
    exact fin_plain hX rfl rfl (by cbv) ⟨rfl, rfl⟩
  · rename_i c5
    have c6 := lt_f hO c5
    cbv
    obtain ⟨yr, hyr⟩ : ∃ yr, O .add 1970 q = yr := ⟨_, rfl⟩
    rw [hyr]
    have hyr2 : yr = 1970 + k / 12 := by rw [← hyr, add_e hO]; omega
    have hrs2 : r = k % 12 := by omega
    obtain ⟨r1, hr1⟩ : ∃ r1, O .add r 1 = r1 := ⟨_, rfl⟩
    have hr12 : r1 = k % 12 + 1 := by rw [← hr1, add_e hO]; omega
    rw [hr1]
    refine ⟨inr_mk hO (by omega) (by omega), ?_⟩
    have yb : yearB yr = true := yearB_iff.2 (by omega)
    obtain ⟨a0, ha0⟩ : ∃ a, Mo k = a := ⟨_, rfl⟩
    have hday : dayN yr r1 1 = a0 := by rw [← ha0, Mo, hyr2, hr12]
    refine call_go hO hX (cday_fn yb (by omega) (by omega) hday) (by kernel_rfl) [] rfl trivial rfl ?_
    rintro _ _ ⟨rfl, rfl⟩
    cbv
    refine call_go hO hX (monthsC_fn hP2 hL2) (by kernel_rfl) [] rfl trivial rfl ?_
    rintro _ _ ⟨rfl, rfl⟩
    cbv
    obtain ⟨b0, hb0⟩ : ∃ b, Mo (k + 1) = b := ⟨_, rfl⟩
    have hsm := span_mon (k := k) (by omega) (by omega)
    rw [ha0, hb0, hP2, hL2] at hsm
    refine call_go hO hX (span_fn (by omega) (by omega) hsm) (by kernel_rfl) [2] rfl ⟨rfl, rfl, trivial⟩ rfl ?_
    rintro _ _ ⟨rfl, rfl⟩
    clear hsm
    cbv
    repeat ((first | rw [M1] | rw [M2] | rw [W1] | rw [W2] | rw [E00] | rw [E20] | rw [E22] | rw [N1] | rw [N0] | rw [B11] | rw [B00] | rw [A11] | rw [Ea] | rw [Eb] | rw [Ec] | rw [Ed] | rw [Ewb] | rw [Ewd]); (repeat (first | rw [M1] | rw [M2] | rw [W1] | rw [W2] | rw [E00] | rw [E20] | rw [E22] | rw [N1] | rw [N0] | rw [B11] | rw [B00] | rw [A11] | rw [Ea] | rw [Eb] | rw [Ec] | rw [Ed] | rw [Ewb] | rw [Ewd])); cbv)
    rw [hr1]
    refine ⟨inr_mk hO (by omega) (by omega), ?_⟩
    obtain ⟨ln, hln⟩ : ∃ ln, lenM yr r1 = ln := ⟨_, rfl⟩
    have hnx : O .add a0 ln = b0 := by rw [add_e hO, ← ha0, ← hb0, ← hln, mo_succ (t := k) (by rw [← hyr2]; exact yb), hyr2, hr12]
    refine call_go hO hX (clen_fn yb (by omega) (by omega) hln) (by kernel_rfl) [] rfl trivial rfl ?_
    rintro _ _ ⟨rfl, rfl⟩
    cbv
    rw [hnx]
    have ma : -800000 ≤ a0 ∧ a0 ≤ 3000000 := by rw [← ha0]; exact mo_bd (by omega) (by omega)
    have mb : -800000 ≤ b0 ∧ b0 ≤ 3000000 := by rw [← hb0]; exact mo_bd (by omega) (by omega)
    refine ⟨inr_mk hO (by omega) (by omega), ?_⟩
    have Ea : O .eq a0 a0 = true := by subst hO; simp [std]
    have Eb : O .eq b0 b0 = true := by subst hO; simp [std]
    repeat ((first | rw [M1] | rw [M2] | rw [W1] | rw [W2] | rw [E00] | rw [E20] | rw [E22] | rw [N1] | rw [N0] | rw [B11] | rw [B00] | rw [A11] | rw [Ea] | rw [Eb] | rw [Ec] | rw [Ed] | rw [Ewb] | rw [Ewd]); (repeat (first | rw [M1] | rw [M2] | rw [W1] | rw [W2] | rw [E00] | rw [E20] | rw [E22] | rw [N1] | rw [N0] | rw [B11] | rw [B00] | rw [A11] | rw [Ea] | rw [Eb] | rw [Ec] | rw [Ed] | rw [Ewb] | rw [Ewd])); cbv)
    skip
    exact fin_plain hX rfl rfl (by cbv) ⟨rfl, rfl⟩
theorem civil_fn {k n : Int} (hk1 : -9223372036854775808 ≤ k) (hk2 : k ≤ 9223372036854775807) (hn : 0 ≤ n ∧ n ≤ 255) : Fn Try.prog 10 [.c (.int .i64 k), .c (.int .u8 n)] [] (fun v c => v = .c (.bool true) ∧ c = []) := by
  have hm : (1 ≤ n % 14 ∧ n % 14 ≤ 12) ∨ n % 14 = 0 ∨ n % 14 = 13 := by omega
  have hw : (1 ≤ n % 9 ∧ n % 9 ≤ 7) ∨ n % 9 = 0 ∨ n % 9 = 8 := by omega
  rcases hm with hm | hm | hm <;> rcases hw with hw | hw | hw
  · exact civil_yy hk1 hk2 hn hm hw
  · exact civil_y0 hk1 hk2 hn hm hw
  · exact civil_y1 hk1 hk2 hn hm hw
  · exact civil_0y hk1 hk2 hn hm hw
  · exact civil_00 hk1 hk2 hn hm hw
  · exact civil_01 hk1 hk2 hn hm hw
  · exact civil_1y hk1 hk2 hn hm hw
  · exact civil_10 hk1 hk2 hn hm hw
  · exact civil_11 hk1 hk2 hn hm hw

theorem civil_walk (k n : Int) (w : World) (hk1 : -9223372036854775808 ≤ k) (hk2 : k ≤ 9223372036854775807) (hn : 0 ≤ n ∧ n ≤ 255) :
    Calls Try.prog 10 #[.int .i64 k, .int .u8 n] w fun e w' => e = .returned (.bool true) ∧ Below w.heap.size w w' := by
  refine fn_true (civil_fn hk1 hk2 hn) w [] rfl (hok_ro fun d hd => ?_) _ rfl
  simp at hd
end Go.Proofs.Ytnieceplfjmocaa
