/-
  granule.Of where it succeeds.
-/
import Derived.Test.YtnieceplfjmocaaOf
import Derived.RegionTactic
import Derived.BigRegion
namespace Go.Proofs.Ytnieceplfjmocaa
open Go.RowKit Go.BigFrame

def OfOk (e : Ending) (w' : World) (B : Nat) (o p : Int) (l : List Sp) : Prop :=
  ∃ A c, e = .returned (.tuple #[.agg #[.int .i64 (o + fr l 0), .int .i64 (ofP p l), .slice A (ofL p l).length c], .int .i64 0]) ∧ SpsR w' A (ofL p l) ∧ (ofL p l).length ≤ c ∧ c ≤ maxLen ∧ From B A

set_option maxHeartbeats 4000000 in
theorem of_ok (o p : Int) (A : Option Addr) (c : Nat) (l : List Sp) (w : World) (h : SpsR w A l) (hp : 1 ≤ p) (hp2 : p ≤ 12622780800) (ha : ascB l = true) (ht : tt l (l.length - 1) - fr l 0 ≤ p) (h5 : l.length ≤ 5000)
    (hl : lineB o = true) (hh : halfB (o + fr l 0) = true) :
    Calls Try.prog 14 #[.int .i64 o, .int .i64 p, .slice A l.length c] w fun e w' => OfOk e w' w.heap.size o p l ∧ Below w.heap.size w w' := by
  have HN := Lib.hid (show l.length ≤ maxLen by simp only [maxLen]; omega)
  have H := Lib.hid h
  have HA := Lib.hid ha
  clear ha
  have d1 : decide (p < 1) = false := by simp; omega
  have d2 : decide (12622780800 < p) = false := by simp; omega
  have hl0 := asc_ne HA.out
  obtain ⟨b, o', rfl, hc⟩ := h hl0
  have c1 := (hc 0 hl0).1
  have c2 := (hc (l.length - 1) (by omega)).2
  obtain ⟨b1, b2, b3⟩ := asc_iv HA.out hl0
  obtain ⟨b4, b5, b6⟩ := asc_iv HA.out (show l.length - 1 < l.length by omega)
  have d3 : decide (p < tt l (l.length - 1) - fr l 0) = false := by simp; omega
  obtain ⟨l1, l2⟩ := lineB_iff.1 hl
  have HL := Lib.hid hl
  have HH := Lib.hid hh
  have HC := Lib.hid hc
  clear h hl hh hc
  go_enter Try.func14, Try.ntmps14
  go_wp2_with fail
  refine wp_region_below (by kernel_rfl) (by kernel_rfl) ?_
  intro W hW
  have hR : Blk W w.heap.size 24 #[.int .i64 0, .int .i64 0, .slice none 0 0] := by rw [hW]; exact Blk.new _ _ _
  have hWb : Below w.heap.size w W := by rw [hW]; exact (Below.refl _ _).alloc (Nat.le_refl _) _
  have HS := Lib.hid (fun z : Bw W => (H.out.below hWb).below z.2)
  have e4 : ∀ z : Bw W, z.1.cell? ⟨b, o', none⟩ = some (.int .i64 (fr l 0)) := fun z => z.old hWb (by simpa using c1)
  have e5 : ∀ z : Bw W, z.1.cell? ⟨b, o' + (l.length - 1) * 2 + 1, none⟩ = some (.int .i64 (tt l (l.length - 1))) := fun z => z.old hWb c2
  clear hW
  repeat (go_big_quiet_step ((go_at_call 48; exact quiet_b (asc_at _ (HS.out _) HN.out HA.out))))
  refine wpQuiet_nil ?_
  rintro wq ⟨⟨_, hq⟩, rfl⟩
  have hbq := below_next hWb hq
  have g4 : wq.cell? ⟨b, o', none⟩ = some (.int .i64 (fr l 0)) := e4 ⟨wq, hq⟩
  have hR2 := hR.below hq
  have hlt : w.heap.size < wq.heap.size := hR2.lt
  have HR := Lib.hid hR2
  have HQ := Lib.hid hbq
  clear e4 e5 c1 c2 hR hWb hq hR2 hbq
  go_wp2_with (first | (go_at_call 50; refine (gline_at _ HL.out).mono ?_; rintro e w' ⟨rfl, rfl⟩) | (go_at_call 47; refine (ghalf_at _ HH.out).mono ?_; rintro e w' ⟨rfl, rfl⟩))
  go_loopw [67] (fun i wr => ∃ (k : Nat) (A : Option Addr) (cc : Nat), k ≤ l.length ∧ i = .int .i64 k ∧ Blk wr wq.heap.size 24 #[.int .i64 (o + fr l 0), .int .i64 p, .slice A (shiftL (l.take k) (fr l 0)).length cc] ∧ OwnSp wr (wq.heap.size + 1) A cc (shiftL (l.take k) (fr l 0)) ∧ Below wq.heap.size wq wr) (fun i _ => l.length - (intOf i).toNat)
  case atStart => exact ⟨0, none, 0, by omega, rfl, Blk.new _ _ _, OwnSp.nil _ _, (Below.refl _ _).alloc (Nat.le_refl _) _⟩
  case round =>
    obtain ⟨k, A, cc, hk, rfl, hB, hown, hbw⟩ := hrel
    have hlenL : (shiftL (l.take k) (fr l 0)).length = k := by rw [shiftL_len, List.length_take]; omega
    have hlt2 := hB.lt
    by_cases hlt' : k < l.length
    · obtain ⟨v1, v2, v3⟩ := asc_iv HA.out hlt'
      have c1 := (HC.out k hlt').1
      have c2 := (HC.out k hlt').2
      have c1' := old_cell (below_next HQ.out hbw) c1
      have c2' := old_cell (below_next HQ.out hbw) c2
      have HT := Lib.hid (shiftL_take_succ (d := fr l 0) hlt')
      generalize shiftL (l.take k) (fr l 0) = L at *
      have HLen := Lib.hid hlenL
      have hL5 : L.length ≤ 5000 := by omega
      clear hlenL c1 c2
      have q0 := hB.cell 0
      have q1 := hB.cell 1
      have q2 := hB.cell 2
      simp at q0 q1 q2
      have HB := Lib.hid hB
      have HO := Lib.hid hown
      have HW := Lib.hid hbw
      clear hB hown hbw
      go_wp2_with (at_builtin; refine wpList_append_span rfl (.tmp 72) (.tmp 82) rfl (wq.heap.size + 1) A cc L rfl ((HO.out.alloc _).alloc _) (wr.heap.size + 1) 0 1 (fr l k - fr l 0) (tt l k - fr l 0) rfl ?h0 ?h1 ?hl ?hb ?_)
      case h0 => simp [go_sem]
      case h1 => simp [go_sem]
      case hl => omega
      case hb => simp; omega
      intro A' cc' w2 hown2 hgr2
      have hne : (Value.slice A L.length cc).ownBlock ≠ some wq.heap.size := fun e => by have := (HO.out.blk _ e).1; omega
      have hB2 := ((HB.out.alloc (.cells #[.int .i64 (fr l k), .int .i64 (tt l k)] 28)).alloc (.cells #[.int .i64 (fr l k - fr l 0), .int .i64 (tt l k - fr l 0)] 28)).grown hgr2 hne
      have t2 := hB2.cell 2
      have s2 := hB2.frozen 2
      have t0 := hB2.cell 0
      have t1 := hB2.cell 1
      simp at t0 t1 t2
      have hW2 : Below wq.heap.size wq w2 := ((HW.out.alloc HW.out.size _).alloc (by simp; have := HW.out.size; omega) _).grown hgr2 (by simp; have := HW.out.size; omega) (fun g e => by have := (HO.out.blk _ e).1; omega)
      have HO2 := Lib.hid hown2
      have HB2 := Lib.hid hB2
      have HW2 := Lib.hid hW2
      clear hB2 hW2 hown2 hgr2
      go_wp2
      go_roundw
      case rel =>
        refine ⟨k + 1, A', cc', by omega, by go_num, ?_, ?_, HW2.out.setCell (by simp) _⟩
        · rw [HT.out]; simpa using HB2.out.put 2 (.slice A' (L.length + 1) cc')
        · rw [HT.out]; exact HO2.out.far (fun e => by have h9 : wq.heap.size + 1 ≤ wq.heap.size := (HO2.out.blk _ e).1; omega) _
      case measure => simp [intOf]; omega
    · have hkl : k = l.length := by omega
      subst hkl
      rw [List.take_length] at hB hown hlenL
      have hlen0 : 0 < (shiftL l (fr l 0)).length := by omega
      obtain ⟨m1, m2, m3, m4⟩ := leastN_spec (p := p) hlen0
      obtain ⟨r1, r2, _⟩ := repM_parts m3
      have hbs : BdS (shiftL l (fr l 0)) := fun j hj => by
        have hj' : j < l.length := by omega
        have := asc_iv HA.out hj'
        rw [fr_shift hj', tt_shift hj']; omega
      have hofM : leastN p (shiftL l (fr l 0)) = ofM p l := rfl
      have hofL : ofL p l = (shiftL l (fr l 0)).take (ofM p l) := rfl
      have hofP : ofP p l = p / (((shiftL l (fr l 0)).length : Int) / (ofM p l : Int)) := by rw [hlenL]; rfl
      rw [hofM] at m1 m2 r1 r2
      generalize shiftL l (fr l 0) = L at *
      generalize ofM p l = m at *
      have hlen5 : L.length ≤ 5000 := by omega
      have hrd := hown.reads
      have hcc : m ≤ cc := by
        rcases hown.2 with ⟨e, _⟩ | ⟨g, cap, cur, e, _, _, h1, _⟩
        · injection e with _ e2 _; omega
        · injection e with _ _ e3; omega
      have hcc2 : cc ≤ 9223372036854775807 := by
        rcases hown.2 with ⟨e, _⟩ | ⟨g, cap, cur, e, _, _, _, h1, _⟩
        · injection e with _ _ e3; omega
        · injection e with _ _ e3; simp only [maxLen] at h1; omega
      have q1 : (1 : Int) ≤ (L.length : Int) / (m : Int) := by apply Int.le_ediv_of_mul_le <;> omega
      have q2 : (L.length : Int) / (m : Int) ≤ L.length := Int.ediv_le_self _ (by omega)
      have q3 : 0 ≤ p / ((L.length : Int) / (m : Int)) := Int.ediv_nonneg (by omega) (by omega)
      have q4 : p / ((L.length : Int) / (m : Int)) ≤ p := Int.ediv_le_self _ (by omega)
      have HLen := Lib.hid hlenL
      have HofM := Lib.hid hofM
      have HofL := Lib.hid hofL
      have HofP := Lib.hid hofP
      have HBS := Lib.hid hbs
      have HRD := Lib.hid hrd
      have HB := Lib.hid hB
      have HBW := Lib.hid hbw
      have u0 := hB.cell 0
      have u1 := hB.cell 1
      have u2 := hB.cell 2
      have s1 := hB.frozen 1
      have s2 := hB.frozen 2
      simp at u0 u1 u2
      have hRw := HR.out.below HBW.out
      have z0 := hRw.cell 0
      have z1 := hRw.cell 1
      have z2 := hRw.cell 2
      have y0 := hRw.frozen 0
      have y1 := hRw.frozen 1
      have y2 := hRw.frozen 2
      simp at z0 z1 z2
      have HRW := Lib.hid hRw
      have hltR := hRw.lt
      clear hRw
      have hA : A = none ∨ ∃ g, A = some ⟨g, 0, none⟩ := by
        rcases hown.2 with ⟨e, _⟩ | ⟨g, cap, cur, e, _, _, _, h1, _⟩
        · injection e with e1 _ _; exact .inl e1
        · injection e with e1 _ _; exact .inr ⟨g, e1⟩
      have HO := Lib.hid hown
      clear m3 m4 r1 r2 hlenL hofM hofL hofP hbs hrd hB hown hbw
      go_wp2_with (go_at_call 49; refine (least_any _ _ _ _ _ HRD.out (by simp only [maxLen]; omega) (by omega) hp hp2 HBS.out).mono ?_; rintro e w' ⟨rfl, q, rfl⟩; rw [HofM.out])
      go_region
      go_wp2
      refine bodyPost_ret (v := .tuple #[.agg #[.int .i64 (o + fr l 0), .int .i64 (p / ((L.length : Int) / (m : Int))), .slice A m m], .int .i64 0]) (by simp [results, Try.results14, go_sem, z0, z1, z2]) rfl ⟨⟨A, m, ?_, ?_, ?_, ?_, ?_⟩, ?_⟩
      · rw [HofL.out, HofP.out, List.length_take, Nat.min_eq_left m2]
      · rw [HofL.out]
        have hd : OwnSp (wr.drewN (q + 1)) (wq.heap.size + 1) A cc L := HO.out
        exact ((((((hd.farlt (p := ⟨wq.heap.size, 1, none⟩) (by simp; try omega) _).farlt (p := ⟨wq.heap.size, 2, none⟩) (by simp; try omega) _).farlt (p := ⟨w.heap.size, 0, none⟩) (by simp; try omega) _).farlt (p := ⟨w.heap.size, 1, none⟩) (by simp; try omega) _).farlt (p := ⟨w.heap.size, 2, none⟩) (by simp; try omega) _).reads).take m
      · rw [HofL.out, List.length_take]; omega
      · simp only [maxLen]; omega
      · exact HO.out.ge.mono (by omega)
      · have hb := below_next HQ.out HBW.out
        exact (((((below_drewN hb (q + 1)).setCell (by simp; omega) _).setCell (by simp; omega) _).setCell (by simp) _).setCell (by simp) _).setCell (by simp) _
end Go.Proofs.Ytnieceplfjmocaa
