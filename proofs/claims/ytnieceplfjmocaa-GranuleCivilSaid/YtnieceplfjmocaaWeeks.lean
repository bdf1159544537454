/-
  granule.Weeks and Months.
-/
import Derived.Test.YtnieceplfjmocaaRow
namespace Go.Proofs.Ytnieceplfjmocaa
open Go.RowKit Go.BigFrame

theorem week_row : rowTo [7] 1 = [(0, 7)] ∧ psum [7] 1 = 7 ∧ ofP 7 [(0, 7)] = 7 ∧ ofL 7 [(0, 7)] = [(0, 7)] ∧ RowOk [7] := by
  refine ⟨by decide, by decide, by decide, by decide, by decide, by decide, fun k hk => ?_⟩
  have : k = 0 := by simp at hk; omega
  subst this; decide

def WeeksRes (e : Ending) (w' : World) (B : Nat) (first : Int) : Prop :=
  ∃ A c, e = .returned (.tuple #[.agg #[.int .i64 (-((4 - first) % 7)), .int .i64 7, .slice A ([(0, 7)] : List Sp).length c], .int .i64 0]) ∧ SpsR w' A [(0, 7)] ∧ From B A

set_option maxRecDepth 20000 in
set_option maxHeartbeats 4000000 in
theorem weeks_yes (first : Int) (w : World) (h1 : 1 ≤ first) (h2 : first ≤ 7) :
    Calls Try.prog 37 #[.int .i64 first] w fun e w' => WeeksRes e w' w.heap.size first ∧ Below w.heap.size w w' := by
  have hd := div_bd (a := 4 - first) (b := 7) (by omega)
  have d1 : decide (first < 1) = false := by simp; omega
  have d2 : decide (7 < first) = false := by simp; omega
  have hB := Blk.new w 24 #[.int .i64 0, .int .i64 0, .slice none 0 0]
  have HB := Lib.hid hB
  clear hB
  obtain ⟨m, hm⟩ : ∃ m, (4 - first) % 7 = m := ⟨_, rfl⟩
  have HM := Lib.hid hm
  rw [hm] at hd
  obtain ⟨m1, m2⟩ := hd
  clear hm
  go_enter Try.func37, Try.ntmps37
  go_wp2_with (first | (go_at_call 41; refine (calls_b (cweekday_any 0 _ (by omega) (by omega))).mono ?_; rintro e w1 ⟨rfl, hb1⟩) | (go_at_call 66; refine (calls_b (imod_any (4 - first) 7 _ (by omega) (by omega) (by omega) (by omega))).mono ?_; rintro e w2 ⟨rfl, hb2⟩; rw [HM.out]))
  have hsz : w.heap.size < w2.heap.size := by have h1 := hb1.size; have h2 := hb2.size; simp at h1; omega
  have hbw : Below w.heap.size w (w2.alloc (.cells #[.int .i64 7] 3)) := (below_next (below_next ((Below.refl w.heap.size w).alloc (Nat.le_refl _) _) hb1) hb2).alloc (by omega) _
  have hBw : Blk (w2.alloc (.cells #[.int .i64 7] 3)) w.heap.size 24 #[.int .i64 0, .int .i64 0, .slice none 0 0] := ((HB.out.below hb1).below hb2).alloc _
  have hI : IntsR (w2.alloc (.cells #[.int .i64 7] 3)) (some ⟨w2.heap.size, 0, none⟩) [7] := fun _ => ⟨w2.heap.size, 0, rfl, fun k hk => by
    have : k = 0 := by simp at hk; omega
    subst this; simp [go_sem, iat]⟩
  have HBw := Lib.hid hbw
  have HBW := Lib.hid hBw
  obtain ⟨r1, r2, r3, r4, r5⟩ := week_row
  have hrow := row_any (-m) (some ⟨w2.heap.size, 0, none⟩) 1 [7] _ hI r5 (by omega) (by omega) (by show psum [7] 1 ≤ _; rw [r2]; omega)
  have HROW := Lib.hid hrow
  clear hI hrow hb1 hb2 hbw hBw r1 r2 r3 r4 r5
  refine HROW.out.mono ?_
  rintro e w3 ⟨⟨A3, c3, rfl, hsp, hc1, hc2, hf3⟩, hb3⟩
  obtain ⟨r1, r2, r3, r4, r5⟩ := week_row
  have e1 : rowTo [7] ([7] : List Int).length = [(0, 7)] := r1
  have e2 : psum [7] ([7] : List Int).length = 7 := r2
  rw [e1, e2, r4] at hsp
  rw [e1, e2, r4] at hc1
  rw [e1, e2, r3, r4]
  have hB3 := HBW.out.below hb3
  have y0 := hB3.cell 0
  have y1 := hB3.cell 1
  have y2 := hB3.cell 2
  have x0 := hB3.frozen 0
  have x1 := hB3.frozen 1
  have x2 := hB3.frozen 2
  simp at y0 y1 y2 x0 x1 x2
  have hlt3 := hB3.lt
  have HB3 := Lib.hid hb3
  have HSP := Lib.hid hsp
  have hf : From (w.heap.size + 1) A3 := hf3.mono (by simp; omega)
  have HF := Lib.hid hf
  clear hb3 hB3 hsp hf3 hf hc1 e1 e2 r1 r2 r3 r4 r5
  go_wp2
  refine bodyPost_ret (v := .tuple #[.agg #[.int .i64 (-m), .int .i64 7, .slice A3 1 c3], .int .i64 0]) (by simp [results, Try.results37, go_sem, y0, y1, y2]) rfl ⟨⟨A3, c3, by rw [HM.out]; rfl, ?_, HF.out.mono (by omega)⟩, ?_⟩
  · exact ((HSP.out.far HF.out (p := ⟨w.heap.size, 0, none⟩) (by simp) _).far HF.out (p := ⟨w.heap.size, 1, none⟩) (by simp) _).far HF.out (p := ⟨w.heap.size, 2, none⟩) (by simp) _
  · have h9 := below_next HBw.out HB3.out
    exact ((h9.setCell (by simp) _).setCell (by simp) _).setCell (by simp) _

/-! months -/
def monS : List Sp := rowTo (monL 4800) 4800
def monP : Int := psum (monL 4800) 4800
def MonRes (e : Ending) (w' : World) (B : Nat) : Prop :=
  ∃ A c, e = .returned (.agg #[.int .i64 0, .int .i64 (ofP monP monS), .slice A (ofL monP monS).length c]) ∧ SpsR w' A (ofL monP monS) ∧ From B A

theorem lenM_bd (y m : Int) (hy : yearB y = true) (h1 : 1 ≤ m) (h2 : m ≤ 12) : 28 ≤ lenM y m ∧ lenM y m ≤ 31 := by
  rw [lenM, if_neg (by simp [hy]; omega)]
  unfold mtab
  split
  · omega
  · split
    · omega
    · split <;> omega
theorem monAt_bd (i : Nat) (h : i < 4800) : 28 ≤ monAt i ∧ monAt i ≤ 31 := lenM_bd _ _ (yearB_iff.2 (by omega)) (by omega) (by omega)
theorem iat_mon {n i : Nat} (h : i < n) : iat (monL n) i = monAt i := by
  simp [iat, monL, List.getD_eq_getElem?_getD, List.getElem?_map, List.getElem?_range h]
theorem mon_ok : RowOk (monL 4800) := by
  refine ⟨by rw [monL_len]; omega, by rw [monL_len]; omega, fun k hk => ?_⟩
  rw [monL_len] at hk
  rw [iat_mon hk]
  have := monAt_bd k hk
  omega

set_option maxRecDepth 20000 in
set_option maxHeartbeats 4000000 in
theorem monthsC_any (w : World) :
    Calls Try.prog 39 #[] w fun e w' => MonRes e w' w.heap.size ∧ Below w.heap.size w w' := by
  have hB := Blk.new w 24 #[.int .i64 0, .int .i64 0, .slice none 0 0]
  have HB := Lib.hid hB
  clear hB
  go_enter Try.func39, Try.ntmps39
  go_wp2_with fail
  refine (months_any _).mono ?_
  rintro e w2 ⟨⟨A, c, rfl, hI⟩, hb2⟩
  have hbw : Below w.heap.size w w2 := below_next ((Below.refl w.heap.size w).alloc (Nat.le_refl _) _) hb2
  have hBw := HB.out.below hb2
  have hsz : w.heap.size < w2.heap.size := hBw.lt
  have HBw := Lib.hid hbw
  have HBW := Lib.hid hBw
  have HL := Lib.hid (monL_len 4800)
  have hrow := row_any 0 A c (monL 4800) w2 hI mon_ok (by omega) (by omega) (by have := psum_bd mon_ok (monL 4800).length (Nat.le_refl _); rw [HL.out] at *; omega)
  have HROW := Lib.hid hrow
  have hS : rowTo (monL 4800) (monL 4800).length = monS := by rw [HL.out]; rfl
  have hP : psum (monL 4800) (monL 4800).length = monP := by rw [HL.out]; rfl
  have HS := Lib.hid hS
  have HP := Lib.hid hP
  clear hI hrow hb2 hbw hBw hS hP
  generalize monL 4800 = L at *
  go_wp2_with fail
  refine HROW.out.mono ?_
  rintro e w3 ⟨⟨A3, c3, rfl, hsp, hc1, hc2, hf3⟩, hb3⟩
  rw [HS.out, HP.out] at hsp
  rw [HS.out, HP.out]
  have hB3 := HBW.out.below hb3
  have y0 := hB3.cell 0
  have y1 := hB3.cell 1
  have y2 := hB3.cell 2
  have x0 := hB3.frozen 0
  have x1 := hB3.frozen 1
  have x2 := hB3.frozen 2
  simp at y0 y1 y2 x0 x1 x2
  have hlt3 := hB3.lt
  have HB3 := Lib.hid hb3
  have HSP := Lib.hid hsp
  have hf : From (w.heap.size + 1) A3 := hf3.mono (by omega)
  have HF := Lib.hid hf
  clear hb3 hB3 hsp hf3 hf hc1
  obtain ⟨S, hSS⟩ : ∃ S, ofL monP monS = S := ⟨_, rfl⟩
  obtain ⟨P, hPP⟩ : ∃ P, ofP monP monS = P := ⟨_, rfl⟩
  rw [hSS] at HSP
  rw [hSS, hPP]
  have HSS := Lib.hid hSS
  have HPP := Lib.hid hPP
  clear hSS hPP
  go_wp2
  refine bodyPost_ret (v := .agg #[.int .i64 0, .int .i64 P, .slice A3 S.length c3]) (by simp [results, Try.results39, go_sem, y0, y1, y2]) rfl ⟨⟨A3, c3, by rw [HSS.out, HPP.out], ?_, HF.out.mono (by omega)⟩, ?_⟩
  · rw [HSS.out]
    exact ((HSP.out.far HF.out (p := ⟨w.heap.size, 0, none⟩) (by simp) _).far HF.out (p := ⟨w.heap.size, 1, none⟩) (by simp) _).far HF.out (p := ⟨w.heap.size, 2, none⟩) (by simp) _
  · have h9 := below_next HBw.out HB3.out
    exact ((h9.setCell (by simp) _).setCell (by simp) _).setCell (by simp) _
end Go.Proofs.Ytnieceplfjmocaa
