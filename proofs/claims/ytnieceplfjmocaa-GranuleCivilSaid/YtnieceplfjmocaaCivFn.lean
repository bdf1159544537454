/-
  civil.Day, Weekday, granule.Months, Weeks, Find for the symbolic run.
-/
import Derived.Test.YtnieceplfjmocaaYears
import Derived.Test.YtnieceplfjmocaaWeeks
namespace Go.Proofs.Ytnieceplfjmocaa
open Go.RowKit
set_option maxRecDepth 100000

/-- the number of a day by year, month, day -/
def dayB (y m d : Int) : Int := 365 * y + y / 4 - y / 100 + y / 400 + (153 * (m - 3) + 2) / 5 + d - 307 + (-719162)
def dayN (y m d : Int) : Int := if m ≤ 2 then dayB (y - 1) (m + 12) d else dayB y m d
set_option maxHeartbeats 1000000 in
theorem count_fn {y m d v : Int} (hy1 : 1 ≤ y) (hy2 : y ≤ 9999) (h1 : 1 ≤ m) (h2 : m ≤ 12) (hd1 : 1 ≤ d) (hd2 : d ≤ 31) (hv : dayN y m d = v) : Fn Try.prog 68 [.c (.int .i64 y), .c (.int .i64 m), .c (.int .i64 d)] [] (fun v' c => v' = .c (.int .i64 v) ∧ c = []) := by
  refine fn_run tab_holds eqs_holds mixed [] Try.func68 (by kernel_rfl) (by kernel_rfl) (by decide) ?_
  intro O X hO hX
  cbv
  split
  · rename_i g
    have g1 := le_t hO g
    cbv
    have q1 : ∀ k : Int, 1 ≤ k → O .quo (O .sub y 1) k = (y - 1) / k := fun k hk => by rw [quo_e hO, sub_e hO, Int.tdiv_eq_ediv_of_nonneg (by omega)]
    have q4 : O .quo (O .add (O .mul 153 (O .sub (O .add m 12) 3)) 2) 5 = (153 * (m + 12 - 3) + 2) / 5 := by rw [quo_e hO, add_e hO, mul_e hO, sub_e hO, add_e hO, Int.tdiv_eq_ediv_of_nonneg (by omega)]
    rw [q1 4 (by omega), q1 100 (by omega), q1 400 (by omega), q4]
    simp only [add_e hO, sub_e hO, mul_e hO]
    repeat (refine And.intro (by first | exact inr_mk hO (by omega) (by omega) | exact nz_mk hO (by omega)) ?_)
    refine fin_plain hX rfl rfl trivial ⟨?_, rfl⟩
    rw [← hv, dayN, if_pos g1, dayB]
    rfl
  · rename_i g
    have g1 := le_f hO g
    cbv
    have q1 : ∀ k : Int, 1 ≤ k → O .quo y k = y / k := fun k hk => by rw [quo_e hO, Int.tdiv_eq_ediv_of_nonneg (by omega)]
    have q4 : O .quo (O .add (O .mul 153 (O .sub m 3)) 2) 5 = (153 * (m - 3) + 2) / 5 := by rw [quo_e hO, add_e hO, mul_e hO, sub_e hO, Int.tdiv_eq_ediv_of_nonneg (by omega)]
    rw [q1 4 (by omega), q1 100 (by omega), q1 400 (by omega), q4]
    simp only [add_e hO, sub_e hO, mul_e hO]
    repeat (refine And.intro (by first | exact inr_mk hO (by omega) (by omega) | exact nz_mk hO (by omega)) ?_)
    refine fin_plain hX rfl rfl trivial ⟨?_, rfl⟩
    rw [← hv, dayN, if_neg (by omega), dayB]
    rfl

theorem cvalid_fn {y m : Int} (hy : yearB y = true) (h1 : 1 ≤ m) (h2 : m ≤ 12) : Fn Try.prog 67 [.agg [.int .i64 y, .int .i64 m, .int .i64 1]] [] (fun v' c => v' = .c (.bool true) ∧ c = []) := by
  refine fn_run tab_holds eqs_holds mixed [(1, [(1, [0, 1, 2, 3, 4, 5, 6, 7, 8, 9]), (2, [10]), (1, [11, 12, 13])], [])] Try.func67 (by kernel_rfl) (by kernel_rfl) (by decide) ?_
  intro O X hO hX
  cbv
  split
  · rename_i g
    cbv
    obtain ⟨v, hv⟩ : ∃ v, lenM y m = v := ⟨_, rfl⟩
    refine call_go hO hX (clen_fn hy h1 h2 hv) (by kernel_rfl) [] rfl trivial rfl ?_
    rintro _ _ ⟨rfl, rfl⟩
    have hb := lenM_bd y m hy h1 h2
    cbv
    rw [show O .le 1 v = true by subst hO; simp [std]; omega]
    exact fin_plain hX rfl rfl (by cbv) ⟨rfl, rfl⟩
  · rename_i g
    have := le_f hO g
    exfalso; omega

theorem cday_fn {y m v : Int} (hy : yearB y = true) (h1 : 1 ≤ m) (h2 : m ≤ 12) (hv : dayN y m 1 = v) : Fn Try.prog 38 [.agg [.int .i64 y, .int .i64 m, .int .i64 1]] [] (fun v' c => v' = .tup [.one (.int .i64 v), .one (.int .i64 0)] ∧ c = []) := by
  refine fn_run tab_holds eqs_holds mixed [] Try.func38 (by kernel_rfl) (by kernel_rfl) (by decide) ?_
  intro O X hO hX
  have hy' := yearB_iff.1 hy
  cbv
  refine call_go hO hX (cvalid_fn hy h1 h2) (by kernel_rfl) [] rfl trivial rfl ?_
  rintro _ _ ⟨rfl, rfl⟩
  cbv
  rw [(not_lit hO).1]
  cbv
  refine call_go hO hX (count_fn hy'.1 hy'.2 h1 h2 (by omega) (by omega) hv) (by kernel_rfl) [] rfl trivial rfl ?_
  rintro _ _ ⟨rfl, rfl⟩
  cbv
  exact fin_plain hX rfl rfl (by cbv) ⟨rfl, rfl⟩

theorem cweekday_fn {d v : Int} (h1 : -719162 ≤ d) (h2 : d < 2932897) (hv : (d + 3) % 7 + 1 = v) : Fn Try.prog 41 [.c (.int .i64 d)] [] (fun v' c => v' = .c (.int .i64 v) ∧ c = []) :=
  fn_old [.int .i64 d] (.int .i64 v) (fun w => (calls_b (cweekday_any d w h1 h2)).mono fun e w' ⟨h, hw⟩ => ⟨by rw [h, hv], hw⟩) (fun fs => rfl) (fun fs => rfl)
theorem imod_fn {a b v : Int} (h1 : -9223372036854775808 ≤ a) (h2 : a ≤ 9223372036854775807) (hb : 1 ≤ b) (hb2 : b ≤ 9223372036854775807) (hv : a % b = v) : Fn Try.prog 66 [.c (.int .i64 a), .c (.int .i64 b)] [] (fun v' c => v' = .c (.int .i64 v) ∧ c = []) :=
  fn_old [.int .i64 a, .int .i64 b] (.int .i64 v) (fun w => (calls_b (imod_any a b w h1 h2 hb hb2)).mono fun e w' ⟨h, hw⟩ => ⟨by rw [h, hv], hw⟩) (fun fs => rfl) (fun fs => rfl)
theorem find_fn {o p x n : Int} {l : List Sp} {v : Bool} (hf : findB o p l x = v ∧ findN o p l x = n) : Fn Try.prog 29 [calA o p 0, .c (.int .i64 x)] [.arr false .i2 l] (fun v' c => v' = .tup [.one (.int .i64 n), .one (.bool v)] ∧ c = []) := by
  intro w hp0 hck hok vs hvs
  obtain ⟨A, c, rfl, hs, hl, hm⟩ := view1 hck hok
  simp [AV.val, vals, Ce.val, faces, Ch.face, allv] at hvs
  subst hvs
  exact (findC_at w hs (by omega) hf).mono fun e w' ⟨he, hb⟩ => post_plain hok rfl he hb

theorem monthsC_fn {P : Int} {L : List Sp} (hP : ofP monP monS = P) (hL : ofL monP monS = L) : Fn Try.prog 39 [] [] (fun v' c => v' = calA 0 P 0 ∧ c = [.arr true .i2 L]) := by
  refine fn_run tab_holds eqs_holds mixed [] Try.func39 (by kernel_rfl) (by kernel_rfl) (by decide) ?_
  intro O X hO hX
  have hb := psum_bd mon_ok 4800 (by rw [monL_len]; omega)
  have hbig : psum (monL 4800) (monL 4800).length ≤ 12622780800 := by rw [monL_len]; omega
  have hP2 : ofP (psum (monL 4800) (monL 4800).length) (rowTo (monL 4800) (monL 4800).length) = P := by rw [monL_len]; exact hP
  have hL2 : ofL (psum (monL 4800) (monL 4800).length) (rowTo (monL 4800) (monL 4800).length) = L := by rw [monL_len]; exact hL
  have hm := months_fn
  have hr := rowc_fn (o := 0) mon_ok (by omega) (by omega) hbig hP2 hL2
  obtain ⟨l, hl⟩ : ∃ l, monL 4800 = l := ⟨_, rfl⟩
  rw [hl] at hm hr
  clear hb hbig hP2 hL2
  cbv
  refine call_go hO hX hm (by kernel_rfl) [] rfl trivial rfl ?_
  rintro _ _ ⟨rfl, rfl⟩
  cbv
  refine call_go hO hX hr (by kernel_rfl) [1] rfl ⟨rfl, rfl, trivial⟩ rfl ?_
  rintro _ _ ⟨rfl, rfl⟩
  cbv
  exact fin_ok hX rfl ⟨[2], calA 0 P 0, [.arr true .i2 L], ⟨rfl, rfl⟩, rfl, rfl, rfl, rfl, by cbv; try simp⟩

theorem weeks_no {first : Int} (h : first < 1 ∨ 7 < first) : Fn Try.prog 37 [.c (.int .i64 first)] [] (fun v' c => v' = .tup [.many [.int .i64 0, .int .i64 0, .raw (.slice none 0 0)], .one (.int .i64 2)] ∧ c = []) := by
  refine fn_run tab_holds eqs_holds mixed [] Try.func37 (by kernel_rfl) (by kernel_rfl) (by decide) ?_
  intro O X hO hX
  cbv
  split
  · rename_i h1
    cbv
    exact fin_plain hX rfl rfl (by cbv) ⟨rfl, rfl⟩
  rename_i h1
  have g1 := lt_f hO h1
  cbv
  split
  · rename_i h2
    cbv
    exact fin_plain hX rfl rfl (by cbv) ⟨rfl, rfl⟩
  rename_i h2
  have g2 := lt_f hO h2
  exfalso; omega
theorem weeks_fn {first : Int} (h1 : 1 ≤ first) (h2 : first ≤ 7) : Fn Try.prog 37 [.c (.int .i64 first)] [] (fun v' c => v' = .tup [.many [.int .i64 (-((4 - first) % 7)), .int .i64 7, .sl 0], .one (.int .i64 0)] ∧ c = [.arr true .i2 [(0, 7)]]) := by
  refine fn_run tab_holds eqs_holds mixed [] Try.func37 (by kernel_rfl) (by kernel_rfl) (by decide) ?_
  intro O X hO hX
  cbv
  split
  · rename_i g
    have := lt_t hO g
    exfalso; omega
  rename_i g1
  cbv
  split
  · rename_i g
    have := lt_t hO g
    exfalso; omega
  rename_i g2
  cbv
  refine call_go hO hX (cweekday_fn (v := 4) (by omega) (by omega) (by decide)) (by kernel_rfl) [] rfl trivial rfl ?_
  rintro _ _ ⟨rfl, rfl⟩
  cbv
  have hmod : 0 ≤ (4 - first) % 7 ∧ (4 - first) % 7 < 7 := ⟨Int.emod_nonneg _ (by omega), Int.emod_lt_of_pos _ (by omega)⟩
  refine ⟨inr_mk hO (by rw [sub_e hO]; omega) (by rw [sub_e hO]; omega), ?_⟩
  obtain ⟨v, hv⟩ : ∃ v, (4 - first) % 7 = v := ⟨_, rfl⟩
  rw [hv] at hmod
  refine call_go hO hX (imod_fn (a := O .sub 4 first) (b := 7) (v := v) (by rw [sub_e hO]; omega) (by rw [sub_e hO]; omega) (by omega) (by omega) (by rw [sub_e hO]; exact hv)) (by kernel_rfl) [] rfl trivial rfl ?_
  rintro _ _ ⟨rfl, rfl⟩
  cbv
  have hn : O .sub 0 v = -v := by rw [sub_e hO]; omega
  rw [hn]
  refine ⟨inr_mk hO (by omega) (by omega), ?_⟩
  obtain ⟨r1, r2, r3, r4, r5⟩ := week_row
  have hlen : ([7] : List Int).length = 1 := rfl
  have hr := rowc_fn (o := -v) (ls := [7]) (P := 7) (L := [(0, 7)]) r5 (by omega) (by omega) (by rw [hlen, r2]; omega) (by rw [hlen, r2, r1]; exact r3) (by rw [hlen, r2, r1]; exact r4)
  refine call_go hO hX hr (by kernel_rfl) [1] rfl ⟨rfl, rfl, trivial⟩ rfl ?_
  rintro _ _ ⟨rfl, rfl⟩
  cbv
  exact fin_ok hX rfl ⟨[2], .tup [.many [.int .i64 (-v), .int .i64 7, .sl 0], .one (.int .i64 0)], [.arr true .i2 [(0, 7)]], ⟨by rw [hv], rfl⟩, rfl, rfl, rfl, rfl, by cbv; try simp⟩
end Go.Proofs.Ytnieceplfjmocaa
