/-
  The reference's Scale, where it succeeds.
-/
import Derived.Test.YtnieceplfjmocaaScaleOk
namespace Go.Proofs.Ytnieceplfjmocaa
open Go.RowKit Go.BigFrame

set_option maxRecDepth 20000 in
set_option maxHeartbeats 8000000 in
theorem rscale_ok (o p n : Int) (A : Option Addr) (c : Nat) (l : List Sp) (w : World) (h : SpsR w A l) (hs : scE o p l n = 0) :
    Calls Try.prog 35 #[.agg #[.int .i64 o, .int .i64 p, .slice A l.length c], .int .i64 n] w fun e w' => CalE e w' w.heap.size (o * n) (p * n) (scl n l) 0 ∧ Below w.heap.size w w' := by
  have hs0 := hs
  obtain ⟨hv, hn1, hpn, hhalf, hnb⟩ := sc_parts hs0
  have hvd := Vd.of hv
  have hn0 := hvd.n0
  have hn5 := hvd.n5
  have hp1 := hvd.p1
  have hp2 := hvd.p2
  have o1 := hvd.o1
  have o2 := hvd.o2
  have hpn0 := mul_le hn1 hp1
  have hbd : 12622780800 / p ≥ n := (Int.le_ediv_iff_mul_le (by omega)).2 (by rw [Int.mul_comm]; exact hpn)
  obtain ⟨on1, on2⟩ := halfB_iff.1 hhalf
  have HN := Lib.hid (show l.length ≤ maxLen by simp only [maxLen]; omega)
  have HV := Lib.hid hv
  have HH := Lib.hid hhalf
  have HBD := Lib.hid (fun k (hk : k < l.length) => sc_bd hvd hn1 hpn hk)
  have HBV := Lib.hid (fun k (hk : k < l.length) => hvd.bd hk)
  have HST := Lib.hid (fun k (hk : k < l.length) => scl_take n hk)
  have HLen := Lib.hid (scl_len n l)
  have d1 : decide (n < 1) = false := decide_eq_false (by omega)
  have d2 : decide (12622780800 / p < n) = false := decide_eq_false (by omega)
  have hq1 : 0 ≤ 2199023255552 / n := Int.ediv_nonneg (by omega) (by omega)
  have hq2 : 2199023255552 / n ≤ 2199023255552 := Int.ediv_le_self _ (by omega)
  obtain ⟨t1, t2⟩ := (half_mul (o := o) hn1).2 hhalf
  have d3 : decide (2199023255552 / n < o) = false := decide_eq_false (by omega)
  have d4 : decide (o < -(2199023255552 / n)) = false := decide_eq_false (by omega)
  have eo := Int.mul_comm n o
  have ep := Int.mul_comm n p
  have no1 : -2199023255552 ≤ n * o := by rw [eo]; exact on1
  have no2 : n * o ≤ 2199023255552 := by rw [eo]; exact on2
  have np1 : 0 ≤ n * p := by rw [ep]; omega
  have np2 : n * p ≤ 12622780800 := by rw [ep]; exact hpn
  clear hs hs0 hv hvd hhalf hbd
  have hW := ((Below.refl w.heap.size w).alloc (Nat.le_refl _) (.cells #[.int .i64 o, .int .i64 p, .slice A l.length c] 24)).alloc (by simp) (.cells #[.int .i64 0, .int .i64 0, .slice none 0 0] 24)
  have K0 := Lib.hid ((((Kp.sps h).alloc (.cells #[.int .i64 o, .int .i64 p, .slice A l.length c] 24)).alloc (.cells #[.int .i64 0, .int .i64 0, .slice none 0 0] 24)).and (((Kp.blk (Blk.new w 24 #[.int .i64 o, .int .i64 p, .slice A l.length c])).alloc (.cells #[.int .i64 0, .int .i64 0, .slice none 0 0] 24)).and ((Kp.blk (Blk.new (w.alloc (.cells #[.int .i64 o, .int .i64 p, .slice A l.length c] 24)) 24 #[.int .i64 0, .int .i64 0, .slice none 0 0])).and (Kp.bel hW))))
  clear h hW
  go_enter Try.func35, Try.ntmps35
  go_wp2_with fail
  refine (rvalidC_at _ K0.out.now.1 HN.out HV.out).mono ?_
  rintro e w1 ⟨rfl, hb1⟩
  have K1 := Lib.hid (K0.out.next hb1)
  clear K0 hb1
  obtain ⟨hS, hC, hR, hW⟩ := K1.out.now
  have g0 := hC.cell 0; have g1 := hC.cell 1; have g2 := hC.cell 2; have z0 := hR.cell 0; have z1 := hR.cell 1; have z2 := hR.cell 2; have y0 := hR.frozen 0; have y1 := hR.frozen 1; have y2 := hR.frozen 2
  simp at g0 g1 g2 z0 z1 z2 y0 y1 y2
  have hgt := hC.lt
  have hzt := hR.lt
  simp at hzt
  have HW := Lib.hid hW
  have HS := Lib.hid hS
  clear hC hR hW hS
  go_wp2_with fail
  refine wp_region_below (by kernel_rfl) (by kernel_rfl) ?_
  intro W hW'
  have hWb : Below w1.heap.size w1 W := by rw [hW']; exact Below.refl _ _
  have e1 : ∀ z : Bw W, z.1.cell? ⟨w.heap.size, 0, none⟩ = some (.int .i64 o) := fun z => z.old hWb g0
  clear hW' g0
  repeat (go_big_quiet_step (fail))
  refine wpQuiet_nil ?_
  rintro wq ⟨⟨_, hq⟩, rfl⟩
  have K2 := Lib.hid (K1.out.next (below_next hWb hq))
  clear K1 HW HS hWb hq g1 g2 z0 z1 z2 y0 y1 y2 hgt hzt e1
  obtain ⟨hS, hC, hR, hW⟩ := K2.out.now
  have g0 := hC.cell 0; have g1 := hC.cell 1; have g2 := hC.cell 2; have z0 := hR.cell 0; have z1 := hR.cell 1; have z2 := hR.cell 2; have y0 := hR.frozen 0; have y1 := hR.frozen 1; have y2 := hR.frozen 2
  simp at g0 g1 g2 z0 z1 z2 y0 y1 y2
  have hgt := hC.lt
  have hzt := hR.lt
  simp at hzt
  have HW := Lib.hid hW
  have HS := Lib.hid hS
  clear hC hR hW hS
  have hd1 := hq1
  clear d3 d4 t1 t2
  go_wp2_with fail
  clear eo ep no1 no2 np1 np2 hd1
  have hB8 := Blk.new wq 24 #[.int .i64 (o * n), .int .i64 (p * n), .slice none 0 0]
  have hb8 : Below wq.heap.size wq (wq.alloc (.cells #[.int .i64 (o * n), .int .i64 (p * n), .slice none 0 0] 24)) := (Below.refl _ _).alloc (Nat.le_refl _) _
  clear g0 g1 g2 z0 z1 z2 y0 y1 y2 HW HS
  go_loopw [7] (fun x wr => ∃ (k : Nat) (A : Option Addr) (cc : Nat), k ≤ l.length ∧ x = .int .i64 k ∧ Blk wr wq.heap.size 24 #[.int .i64 (o * n), .int .i64 (p * n), .slice A (scl n (l.take k)).length cc] ∧ OwnSp wr (wq.heap.size + 1) A cc (scl n (l.take k)) ∧ Below wq.heap.size wq wr) (fun x _ => l.length - (intOf x).toNat)
  case atStart => exact ⟨0, none, 0, by omega, rfl, hB8, OwnSp.nil _ _, hb8⟩
  case round =>
    obtain ⟨k, A', cc, hk, rfl, hB, hown, hbw⟩ := hrel
    clear hB8 hb8
    have K3 := Lib.hid (K2.out.next hbw)
    obtain ⟨hS, hC, hR, hW⟩ := K3.out.now
    have g0 := hC.cell 0; have g1 := hC.cell 1; have g2 := hC.cell 2; have z0 := hR.cell 0; have z1 := hR.cell 1; have z2 := hR.cell 2; have y0 := hR.frozen 0; have y1 := hR.frozen 1; have y2 := hR.frozen 2
    simp at g0 g1 g2 z0 z1 z2 y0 y1 y2
    have hgt := hC.lt
    have hzt := hR.lt
    simp at hzt
    have HW := Lib.hid hW
    have HS := Lib.hid hS
    clear hC hR hW hS
    have hsz := hB.lt
    by_cases hlt : k < l.length
    · have HT := Lib.hid (HST.out k hlt)
      have hlen : (scl n (l.take k)).length = k := by rw [scl_len, List.length_take]; omega
      obtain ⟨b1, b2, b3⟩ := HBD.out k hlt
      obtain ⟨v1, v2, v3⟩ := HBV.out k hlt
      obtain ⟨b, o', rfl, hc⟩ := HS.out hn0
      have c1 := (hc k hlt).1
      have c2 := (hc k hlt).2
      clear hc HS
      generalize scl n (l.take k) = L at *
      have q0 := hB.cell 0; have q1 := hB.cell 1; have q2 := hB.cell 2; have q3 := hB.frozen 2; simp at q0 q1 q2
      obtain ⟨x, hx⟩ : ∃ x, fr l k = x := ⟨_, rfl⟩
      obtain ⟨y, hy⟩ : ∃ y, tt l k = y := ⟨_, rfl⟩
      rw [hx] at b1 b2 v1 v2 c1
      rw [hy] at b2 b3 v2 v3 c2
      rw [hx, hy] at HT
      have hL5 : L.length ≤ 5000 := by omega
      have HL := Lib.hid hlen
      have HO := Lib.hid hown
      have HB := Lib.hid hB
      have HWW := Lib.hid hbw
      clear hlen hown hB hbw hx hy
      have e3 := Int.mul_comm n x
      have e4 := Int.mul_comm n y
      have nx1 : 0 ≤ n * x := by rw [e3]; omega
      have nx2 : n * x ≤ 12622780800 := by rw [e3]; omega
      have ny1 : 0 ≤ n * y := by rw [e4]; omega
      have ny2 : n * y ≤ 12622780800 := by rw [e4]; omega
      rw [← e3, ← e4] at HT
      clear e3 e4
      have z3 : (0 : Int) ≤ (k : Int) := by omega
      have z4 : (k : Int) < (l.length : Int) := by omega
      go_wp2_with fail
      refine wp_region_pi [(1, [0, 1, 2, 3, 4, 5, 6, 7, 8, 9, 10, 11, 12, 13, 14, 15, 16, 17, 18]), (2, [19])] [20, 21, 22] (by kernel_rfl) (by kernel_rfl) ?_
      intro W hW
      have hVW : Below wr.heap.size wr W := by rw [hW]; exact (Below.refl _ _).drew
      have f1 : ∀ z : Bw W, z.1.cell? ⟨wq.heap.size, 2, none⟩ = some (.slice A' L.length cc) := fun z => z.old hVW q2
      have f2 : ∀ z : Bw W, z.1.cell? ⟨w.heap.size, 2, none⟩ = some (.slice (some ⟨b, o', none⟩) l.length c) := fun z => z.old hVW g2
      have f3 : ∀ z : Bw W, z.1.cell? ⟨b, o' + k * 2, none⟩ = some (.int .i64 x) := fun z => z.old hVW c1
      have f4 : ∀ z : Bw W, z.1.cell? ⟨b, o' + k * 2 + 1, none⟩ = some (.int .i64 y) := fun z => z.old hVW c2
      have HDW := Lib.hid hVW
      clear hW hVW g0 g1 g2 q0 q1 q2 q3 c1 c2
      have x1 : IntKind.i64.wrap (n * x) = n * x := IntWalk.i64_in _ (by omega)
      have x2 : IntKind.i64.wrap (n * y) = n * y := IntWalk.i64_in _ (by omega)
      simp only [picks, pick, List.map_cons, List.map_nil, List.getD_cons_zero, List.getD_cons_succ]
      refine seg1 ?_
      repeat (go_big_quiet_step (fail))
      refine wpQuiet_nil ?_
      refine seg2 ?_
      go_wp2_with fail
      refine ⟨⟨⟨_, (Below.refl _ _).alloc (Nat.le_refl _) _⟩, rfl⟩, ?_⟩
      refine seg3 ?_
      have hOW : OwnSp W (wq.heap.size + 1) A' cc L := HO.out.below HDW.out
      have hBW := HB.out.below HDW.out
      have HOW := Lib.hid hOW
      have HBW := Lib.hid hBW
      clear hOW hBW
      have hsW := HDW.out.size
      go_wp2_with (at_builtin; refine wpList_append_span rfl (.tmp 52) (.tmp 70) rfl (wq.heap.size + 1) A' cc L rfl (HOW.out.alloc _) W.heap.size 0 1 (n * x) (n * y) rfl ?h0 ?h1 ?hl ?hb ?_)
      case h0 => simp [go_sem]
      case h1 => simp [go_sem]
      case hl => omega
      case hb => simp; omega
      intro A2 c2 w6 hown2 hgr2
      have hfar : Blk w6 wq.heap.size 24 #[.int .i64 (o * n), .int .i64 (p * n), .slice A' L.length cc] := (HBW.out.alloc _).grown hgr2 (fun e => by have := (HOW.out.blk _ e).1; omega)
      have s3 := hfar.cell 2; have s4 := hfar.frozen 2; simp at s3
      have hW6 : Below wq.heap.size wq w6 := ((HWW.out.trans (HDW.out.mono (by omega))).alloc (by omega) _).grown hgr2 (by simp; omega) (fun g e => by have := (HOW.out.blk _ e).1; omega)
      have HO2 := Lib.hid hown2
      have HB2 := Lib.hid (hfar.put 2 (.slice A2 (L.length + 1) c2))
      have HW2 := Lib.hid hW6
      clear hown2 hgr2 hfar hW6 HO HB HWW HOW HBW HDW
      go_wp2
      go_roundw
      case rel => exact ⟨k + 1, A2, c2, by omega, by go_num, by rw [HT.out, List.length_append]; exact HB2.out, by rw [HT.out]; exact HO2.out.farlt (by simp) _, HW2.out.setCell (by simp) _⟩
      case measure => simp [intOf]; omega
    · have hkl : k = l.length := by omega
      subst hkl
      have hTT : scl n (l.take l.length) = scl n l := by rw [List.take_length]
      rw [hTT] at hB hown
      have q0 := hB.cell 0; have q1 := hB.cell 1; have q2 := hB.cell 2; simp at q0 q1 q2
      have hrd := Lib.hid hown.reads
      have hge := Lib.hid hown.ge
      have hcap := Lib.hid hown.cap
      have HLL := Lib.hid HLen.out
      clear hown hbw hTT hB hlt HLen
      go_wp2
      refine bodyPost_ret (v := .tuple #[.agg #[.int .i64 (o * n), .int .i64 (p * n), .slice A' (scl n l).length cc], .int .i64 0]) (by simp [results, Try.results35, go_sem, z0, z1, z2]) rfl ⟨⟨A', cc, rfl, ?_, hcap.out.1, hcap.out.2, hge.out.mono (by omega)⟩, ?_⟩
      · exact hrd.out.far3 hge.out (by omega) _ _ _
      · exact ((HW.out.setCell (by simp) _).setCell (by simp) _).setCell (by simp) _
end Go.Proofs.Ytnieceplfjmocaa
