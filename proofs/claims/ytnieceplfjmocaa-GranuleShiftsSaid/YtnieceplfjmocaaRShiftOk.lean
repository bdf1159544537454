/-
  The reference's Shift, where it succeeds.
-/
import Derived.Test.YtnieceplfjmocaaRShift
import Derived.Test.YtnieceplfjmocaaPi
namespace Go.Proofs.Ytnieceplfjmocaa
open Go.RowKit Go.BigFrame

set_option maxRecDepth 20000 in
set_option maxHeartbeats 16000000 in
theorem rshift_ok (o p n : Int) (A : Option Addr) (c : Nat) (l : List Sp) (w : World) (h : SpsR w A l) (hv : validB o p l = true) (hh : halfB (atF o p l n) = true) :
    Calls Try.prog 27 #[.agg #[.int .i64 o, .int .i64 p, .slice A l.length c], .int .i64 n] w fun e w' => CalE e w' w.heap.size (atF o p l n) p (shl o p l n) 0 ∧ Below w.heap.size w w' := by
  have hvd := Vd.of hv
  have hn0 := hvd.n0
  have hn5 := hvd.n5
  have hp1 := hvd.p1
  have hp2 := hvd.p2
  obtain ⟨_, _, n1, n2⟩ := half_small hvd hh
  have HN := Lib.hid (show l.length ≤ maxLen by simp only [maxLen]; omega)
  have HV := Lib.hid hv
  have hon := half_on hvd hh
  obtain ⟨h1, h2⟩ := halfB_iff.1 hh
  obtain ⟨r, hr, hnr⟩ := at_parts n hn0
  have hmod : n % (l.length : Int) = (r : Int) := by have := (at_mk o p (n / (l.length : Int)) hr).2.1; rw [← hnr] at this; exact this
  have HMOD := Lib.hid hmod
  have HPL := Lib.hid (fun k (hk : k < l.length) => sh_place hvd n hr hnr hk)
  have HST := Lib.hid (fun k (hk : k < l.length) => shl_take o p n hk)
  have HLen := Lib.hid (shl_len o p l n)
  have HBD := Lib.hid (fun k (hk : k < l.length) => hvd.bd hk)
  have HAT : Hid (∀ w : World, SpsR w A l → Calls Try.prog 56 #[.agg #[.int .i64 o, .int .i64 p, .slice A l.length c], .int .i64 n] w fun e w' => e = .returned (.tuple #[.agg #[.int .i64 (atF o p l n), .int .i64 (atT o p l n)], .bool true]) ∧ Below w.heap.size w w') := Lib.hid (fun w hw => rat_on w hw hvd (by omega) (by omega) hon)
  have hW := ((Below.refl w.heap.size w).alloc (Nat.le_refl _) (.cells #[.int .i64 o, .int .i64 p, .slice A l.length c] 24)).alloc (by simp) (.cells #[.int .i64 0, .int .i64 0, .slice none 0 0] 24)
  have K0 := Lib.hid ((((Kp.sps h).alloc (.cells #[.int .i64 o, .int .i64 p, .slice A l.length c] 24)).alloc (.cells #[.int .i64 0, .int .i64 0, .slice none 0 0] 24)).and (((Kp.blk (Blk.new w 24 #[.int .i64 o, .int .i64 p, .slice A l.length c])).alloc (.cells #[.int .i64 0, .int .i64 0, .slice none 0 0] 24)).and ((Kp.blk (Blk.new (w.alloc (.cells #[.int .i64 o, .int .i64 p, .slice A l.length c] 24)) 24 #[.int .i64 0, .int .i64 0, .slice none 0 0])).and (Kp.bel hW))))
  clear hv hvd hW hh hon hnr hmod h
  generalize shl o p l n = S at *
  generalize atF o p l n = s at *
  generalize atT o p l n = t at *
  have d1 : decide (s < -2199023255552) = false := decide_eq_false (by omega)
  have d2 : decide (2199023255552 < s) = false := decide_eq_false (by omega)
  go_enter Try.func27, Try.ntmps27
  go_wp2_with (first | (go_at_call 20; refine (rvalidC_at _ K0.out.now.1 HN.out HV.out).mono ?_; rintro e w1 ⟨rfl, hb1⟩; have K1 := Lib.hid (K0.out.next hb1); obtain ⟨-, hC, -, -⟩ := K1.out.now; have g0 := hC.cell 0; have g1 := hC.cell 1; have g2 := hC.cell 2; simp at g0 g1 g2; clear hC) | (go_at_call 56; refine (HAT.out _ K1.out.now.1).mono ?_; rintro e w2 ⟨rfl, hb2⟩; have K2 := Lib.hid ((K1.out.next hb2).alloc (.cells #[.int .i64 s, .int .i64 t] 28)); obtain ⟨-, hC, -, -⟩ := (K1.out.next hb2).now; clear g0 g1 g2; have g0 := hC.cell 0; have g1 := hC.cell 1; have g2 := hC.cell 2; have hl2 := hC.lt; simp at g0 g1 g2; clear hC) | (go_at_call 57; refine (calls_b (rmod_any _ _ _ (by omega) (by omega) (by omega) (by omega))).mono ?_; rintro e w4 ⟨rfl, hb4⟩; rw [HMOD.out]))
  have hB8 : Blk w4 (w2.heap.size + 1) 24 #[.int .i64 s, .int .i64 p, .slice none 0 0] := by
    have := (Blk.new (w2.alloc (.cells #[.int .i64 s, .int .i64 t] 28)) 24 #[.int .i64 s, .int .i64 p, .slice none 0 0]).below hb4
    simpa using this
  have hbW : Below (w2.heap.size + 1) (w2.alloc (.cells #[.int .i64 s, .int .i64 t] 28)) w4 := by
    have := ((Below.refl (w2.alloc (.cells #[.int .i64 s, .int .i64 t] 28)).heap.size (w2.alloc (.cells #[.int .i64 s, .int .i64 t] 28))).alloc (Nat.le_refl _) (.cells #[.int .i64 s, .int .i64 p, .slice none 0 0] 24)).trans (hb4.mono (by simp))
    simpa using this
  clear g0 g1 g2
  go_loopw [11] (fun x wr => ∃ (k : Nat) (A : Option Addr) (cc : Nat), k ≤ l.length ∧ x = .int .i64 k ∧ Blk wr (w2.heap.size + 1) 24 #[.int .i64 s, .int .i64 p, .slice A (S.take k).length cc] ∧ OwnSp wr (w2.heap.size + 2) A cc (S.take k) ∧ Below (w2.heap.size + 1) (w2.alloc (.cells #[.int .i64 s, .int .i64 t] 28)) wr) (fun x _ => l.length - (intOf x).toNat)
  case atStart => exact ⟨0, none, 0, by omega, rfl, hB8, OwnSp.nil _ _, hbW⟩
  case round =>
    obtain ⟨k, A', cc, hk, rfl, hB, hown, hbw⟩ := hrel
    clear hB8 hbW
    have K4 := Lib.hid (K2.out.next (by simpa using hbw))
    obtain ⟨hS, hC, hR, hW⟩ := K4.out.now
    have g0 := hC.cell 0; have g1 := hC.cell 1; have g2 := hC.cell 2; simp at g0 g1 g2
    have hsz := hB.lt
    have hlenL : (S.take k).length = k := by rw [List.length_take, HLen.out]; omega
    by_cases hlt : k < l.length
    · have hTk := HST.out k hlt
      obtain ⟨L, hL⟩ : ∃ L, S.take k = L := ⟨_, rfl⟩
      rw [hL] at hTk hB hown hlenL
      have hL5 : L.length ≤ 5000 := by omega
      have HL := Lib.hid hlenL
      clear hL
      have q0 := hB.cell 0; have q1 := hB.cell 1; have q2 := hB.cell 2; simp at q0 q1 q2
      obtain ⟨b, o', rfl, hc⟩ := hS hn0
      have f1 := (hc r hr).1
      obtain ⟨v1, v2, v3⟩ := HBD.out r hr
      obtain ⟨f, hf⟩ : ∃ f, fr l r = f := ⟨_, rfl⟩
      have w1 : IntKind.i64.wrap ((r : Int) + (k : Int)) = (r : Int) + (k : Int) := IntWalk.i64_in _ (by omega)
      have z0 : (0 : Int) ≤ (r : Int) := by omega
      have z1 : (r : Int) < (l.length : Int) := by omega
      have hne : ¬ l = [] := by intro e; rw [e] at hn0; simp at hn0
      have hla := hC.lt
      have hlb : b < wr.heap.size := World.block_lt_of_cell? _ _ f1
      have HO := Lib.hid hown
      have HW := Lib.hid hbw
      have HB := Lib.hid hB
      clear hown hbw hC hR hW hS hB
      by_cases hrk : r + k < l.length
      · have d3 : decide ((l.length : Int) ≤ (r : Int) + (k : Int)) = false := decide_eq_false (by omega)
        obtain ⟨j, hj⟩ : ∃ j, r + k = j := ⟨_, rfl⟩
        have m1 : ((r : Int) + (k : Int)) % (l.length : Int) = (j : Int) := by rw [Int.emod_eq_of_lt (by omega) (by omega)]; omega
        have m2 : ((r : Int) + (k : Int)).tmod (l.length : Int) = (j : Int) := by rw [Int.tmod_eq_emod_of_nonneg (by omega)]; exact m1
        obtain ⟨e1, e2⟩ := (HPL.out k hlt).1 hrk
        rw [e1, e2, hj] at hTk
        have c1 := (hc j (by omega)).1
        have c2 := (hc j (by omega)).2
        have z2 : (0 : Int) ≤ (j : Int) := by omega
        have z3 : (j : Int) < (l.length : Int) := by omega
        obtain ⟨u1, u2, u3⟩ := HBD.out j (by omega)
        have HT := Lib.hid hTk
        clear e1 e2 hTk hc
        go_wp2_with fail
        go_region
        obtain ⟨x, hx⟩ : ∃ x, fr l j = x := ⟨_, rfl⟩
        obtain ⟨y, hy⟩ : ∃ y, tt l j = y := ⟨_, rfl⟩
        rw [hx, hy] at HT ⊢
        rw [hx] at u1 u2
        rw [hy] at u2 u3
        rw [hf] at HT v1 v2 f1
        clear c1 c2 m1 m2 z2 z3 d3 hlenL hx hy
        go_wp2_with fail
        obtain ⟨V, hV⟩ : ∃ V, (wr.alloc (.cells #[.int .i64 x, .int .i64 y] 28)).drew = V := ⟨_, rfl⟩
        rw [hV]
        have hDB : Below wr.heap.size wr V := by rw [← hV]; exact ((Below.refl _ _).alloc (Nat.le_refl _) _).drew
        have hsz : wr.heap.size < V.heap.size := by rw [← hV]; simp
        have p0 : V.cell? ⟨wr.heap.size, 0, none⟩ = some (.int .i64 x) := by rw [← hV]; simp [go_sem]
        have p1 : V.cell? ⟨wr.heap.size, 1, none⟩ = some (.int .i64 y) := by rw [← hV]; simp [go_sem]
        clear hV
        refine wp_region_pi [(1, [0, 1, 2, 3, 4, 5, 6, 7, 8, 9, 10, 11, 12, 13, 14, 15, 16, 17, 18, 19, 20]), (2, [21])] [22, 23, 24] (by kernel_rfl) (by kernel_rfl) ?_
        intro W hW
        have hVW : Below V.heap.size V W := by rw [hW]; exact (Below.refl _ _).drew
        have hDW := below_next hDB hVW
        have e1 : ∀ z : Bw W, z.1.cell? ⟨w2.heap.size + 1, 2, none⟩ = some (.slice A' L.length cc) := fun z => z.old hDW q2
        have e2 : ∀ z : Bw W, z.1.cell? ⟨wr.heap.size, 0, none⟩ = some (.int .i64 x) := fun z => z.old hVW p0
        have e3 : ∀ z : Bw W, z.1.cell? ⟨wr.heap.size, 1, none⟩ = some (.int .i64 y) := fun z => z.old hVW p1
        have e4 : ∀ z : Bw W, z.1.cell? ⟨w.heap.size, 2, none⟩ = some (.slice (some ⟨b, o', none⟩) l.length c) := fun z => z.old hDW g2
        have e5 : ∀ z : Bw W, z.1.cell? ⟨b, o' + r * 2, none⟩ = some (.int .i64 f) := fun z => z.old hDW f1
        have HDW := Lib.hid hDW
        clear hW hVW hDW hDB p0 p1 f1 g0 g1 g2 q0 q1 q2
        have x1 : IntKind.i64.wrap (x - f) = x - f := IntWalk.i64_in _ (by omega)
        have x2 : IntKind.i64.wrap (y - f) = y - f := IntWalk.i64_in _ (by omega)
        simp only [picks, pick, List.map_cons, List.map_nil, List.getD_cons_zero, List.getD_cons_succ]
        refine seg1 ?_
        repeat (go_big_quiet_step (fail))
        refine wpQuiet_nil ?_
        refine seg2 ?_
        go_wp2_with fail
        refine ⟨⟨⟨_, (Below.refl _ _).alloc (Nat.le_refl _) _⟩, rfl⟩, ?_⟩
        refine seg3 ?_
        have HOW : OwnSp W (w2.heap.size + 2) A' cc L := HO.out.below HDW.out
        have HBW := HB.out.below HDW.out
        have r1 := HBW.frozen 2
        have HOW := Lib.hid HOW
        have HBW := Lib.hid HBW
        go_wp2_with (at_builtin; refine wpList_append_span rfl (.tmp 79) (.tmp 99) rfl (w2.heap.size + 2) A' cc L rfl (HOW.out.alloc _) W.heap.size 0 1 (x - f) (y - f) rfl ?h0 ?h1 ?hl ?hb ?_)
        case h0 => simp [go_sem]
        case h1 => simp [go_sem]
        case hl => omega
        case hb => have := HDW.out.size; simp; omega
        intro A2 c2 w6 hown2 hgr2
        have hfar : Blk w6 (w2.heap.size + 1) 24 #[.int .i64 s, .int .i64 p, .slice A' L.length cc] := (HBW.out.alloc _).grown hgr2 (fun e => by have := (HOW.out.blk _ e).1; omega)
        have s3 := hfar.cell 2; have s4 := hfar.frozen 2; simp at s3
        have hW6 : Below (w2.heap.size + 1) (w2.alloc (.cells #[.int .i64 s, .int .i64 t] 28)) w6 := by
          have h1 := HW.out.trans (HDW.out.mono (by omega))
          exact (h1.alloc (by have := HDW.out.size; omega) (.cells #[.int .i64 (x - f), .int .i64 (y - f)] 28)).grown hgr2 (by have := HDW.out.size; simp; omega) (fun g e => by have := (HOW.out.blk _ e).1; omega)
        have HO2 := Lib.hid hown2
        have HB2 := Lib.hid (hfar.put 2 (.slice A2 (L.length + 1) c2))
        have HW2 := Lib.hid hW6
        clear hown2 hgr2 hfar hW6 HOW HBW HDW HO HB HW
        go_wp2
        go_roundw
        case rel => exact ⟨k + 1, A2, c2, by omega, by go_num, by rw [HT.out, List.length_append]; exact HB2.out, by rw [HT.out]; exact HO2.out.farlt (by simp) _, HW2.out.setCell (by simp) _⟩
        case measure => simp [intOf]; omega
      · have d3 : decide ((l.length : Int) ≤ (r : Int) + (k : Int)) = true := decide_eq_true (by omega)
        obtain ⟨j, hj⟩ : ∃ j, r + k - l.length = j := ⟨_, rfl⟩
        have m1 : ((r : Int) + (k : Int)) % (l.length : Int) = (j : Int) := by
          have : (r : Int) + (k : Int) = (j : Int) + l.length := by omega
          rw [this, Int.add_emod_right, Int.emod_eq_of_lt (by omega) (by omega)]
        have m2 : ((r : Int) + (k : Int)).tmod (l.length : Int) = (j : Int) := by rw [Int.tmod_eq_emod_of_nonneg (by omega)]; exact m1
        obtain ⟨e1, e2⟩ := (HPL.out k hlt).2 (by omega)
        rw [e1, e2, hj] at hTk
        have c1 := (hc j (by omega)).1
        have c2 := (hc j (by omega)).2
        have z2 : (0 : Int) ≤ (j : Int) := by omega
        have z3 : (j : Int) < (l.length : Int) := by omega
        obtain ⟨u1, u2, u3⟩ := HBD.out j (by omega)
        have HT := Lib.hid hTk
        clear e1 e2 hTk hc
        go_wp2_with fail
        go_region
        obtain ⟨x0, hx⟩ : ∃ x, fr l j = x := ⟨_, rfl⟩
        obtain ⟨y0, hy⟩ : ∃ y, tt l j = y := ⟨_, rfl⟩
        rw [hx, hy] at HT ⊢
        rw [hx] at u1 u2
        rw [hy] at u2 u3
        rw [hf] at HT v1 v2 f1
        clear c1 c2 m1 m2 z2 z3 hlenL hx hy
        go_wp2_with fail
        go_region
        go_wp2_with fail
        obtain ⟨x, hx⟩ : ∃ x, x0 + p = x := ⟨_, rfl⟩
        obtain ⟨y, hy⟩ : ∃ y, y0 + p = y := ⟨_, rfl⟩
        rw [hx, hy] at HT ⊢
        have u4 : 0 ≤ x ∧ x ≤ 25245561600 ∧ 0 ≤ y ∧ y ≤ 25245561600 := by omega
        clear hx hy u1 u2 u3
        obtain ⟨u1, u2, u3, u5⟩ := u4
        obtain ⟨V, hV⟩ : ∃ V, (wr.alloc (.cells #[.int .i64 x, .int .i64 y] 28)).drew.drew = V := ⟨_, rfl⟩
        rw [hV]
        have hDB : Below wr.heap.size wr V := by rw [← hV]; exact ((Below.refl _ _).alloc (Nat.le_refl _) _).drew.drew
        have hsz : wr.heap.size < V.heap.size := by rw [← hV]; simp
        have p0 : V.cell? ⟨wr.heap.size, 0, none⟩ = some (.int .i64 x) := by rw [← hV]; simp [go_sem]
        have p1 : V.cell? ⟨wr.heap.size, 1, none⟩ = some (.int .i64 y) := by rw [← hV]; simp [go_sem]
        clear hV
        refine wp_region_pi [(1, [0, 1, 2, 3, 4, 5, 6, 7, 8, 9, 10, 11, 12, 13, 14, 15, 16, 17, 18, 19, 20]), (2, [21])] [22, 23, 24] (by kernel_rfl) (by kernel_rfl) ?_
        intro W hW
        have hVW : Below V.heap.size V W := by rw [hW]; exact (Below.refl _ _).drew
        have hDW := below_next hDB hVW
        have e1 : ∀ z : Bw W, z.1.cell? ⟨w2.heap.size + 1, 2, none⟩ = some (.slice A' L.length cc) := fun z => z.old hDW q2
        have e2 : ∀ z : Bw W, z.1.cell? ⟨wr.heap.size, 0, none⟩ = some (.int .i64 x) := fun z => z.old hVW p0
        have e3 : ∀ z : Bw W, z.1.cell? ⟨wr.heap.size, 1, none⟩ = some (.int .i64 y) := fun z => z.old hVW p1
        have e4 : ∀ z : Bw W, z.1.cell? ⟨w.heap.size, 2, none⟩ = some (.slice (some ⟨b, o', none⟩) l.length c) := fun z => z.old hDW g2
        have e5 : ∀ z : Bw W, z.1.cell? ⟨b, o' + r * 2, none⟩ = some (.int .i64 f) := fun z => z.old hDW f1
        have HDW := Lib.hid hDW
        clear hW hVW hDW hDB p0 p1 f1 g0 g1 g2 q0 q1 q2
        have x1 : IntKind.i64.wrap (x - f) = x - f := IntWalk.i64_in _ (by omega)
        have x2 : IntKind.i64.wrap (y - f) = y - f := IntWalk.i64_in _ (by omega)
        simp only [picks, pick, List.map_cons, List.map_nil, List.getD_cons_zero, List.getD_cons_succ]
        refine seg1 ?_
        repeat (go_big_quiet_step (fail))
        refine wpQuiet_nil ?_
        refine seg2 ?_
        go_wp2_with fail
        refine ⟨⟨⟨_, (Below.refl _ _).alloc (Nat.le_refl _) _⟩, rfl⟩, ?_⟩
        refine seg3 ?_
        have HOW : OwnSp W (w2.heap.size + 2) A' cc L := HO.out.below HDW.out
        have HBW := HB.out.below HDW.out
        have r1 := HBW.frozen 2
        have HOW := Lib.hid HOW
        have HBW := Lib.hid HBW
        go_wp2_with (at_builtin; refine wpList_append_span rfl (.tmp 79) (.tmp 99) rfl (w2.heap.size + 2) A' cc L rfl (HOW.out.alloc _) W.heap.size 0 1 (x - f) (y - f) rfl ?h0 ?h1 ?hl ?hb ?_)
        case h0 => simp [go_sem]
        case h1 => simp [go_sem]
        case hl => omega
        case hb => have := HDW.out.size; simp; omega
        intro A2 c2 w6 hown2 hgr2
        have hfar : Blk w6 (w2.heap.size + 1) 24 #[.int .i64 s, .int .i64 p, .slice A' L.length cc] := (HBW.out.alloc _).grown hgr2 (fun e => by have := (HOW.out.blk _ e).1; omega)
        have s3 := hfar.cell 2; have s4 := hfar.frozen 2; simp at s3
        have hW6 : Below (w2.heap.size + 1) (w2.alloc (.cells #[.int .i64 s, .int .i64 t] 28)) w6 := by
          have h1 := HW.out.trans (HDW.out.mono (by omega))
          exact (h1.alloc (by have := HDW.out.size; omega) (.cells #[.int .i64 (x - f), .int .i64 (y - f)] 28)).grown hgr2 (by have := HDW.out.size; simp; omega) (fun g e => by have := (HOW.out.blk _ e).1; omega)
        have HO2 := Lib.hid hown2
        have HB2 := Lib.hid (hfar.put 2 (.slice A2 (L.length + 1) c2))
        have HW2 := Lib.hid hW6
        clear hown2 hgr2 hfar hW6 HOW HBW HDW HO HB HW
        go_wp2
        go_roundw
        case rel => exact ⟨k + 1, A2, c2, by omega, by go_num, by rw [HT.out, List.length_append]; exact HB2.out, by rw [HT.out]; exact HO2.out.farlt (by simp) _, HW2.out.setCell (by simp) _⟩
        case measure => simp [intOf]; omega
    · have hkl : k = l.length := by omega
      subst hkl
      have hTT : S.take l.length = S := by rw [List.take_of_length_le (by rw [HLen.out]; omega)]
      rw [hTT] at hB hown
      have z0 := hB.cell 0; have z1 := hB.cell 1; have z2 := hB.cell 2; simp at z0 z1 z2
      have hR0 := hR.cell 0; have hR1 := hR.cell 1; have hR2 := hR.cell 2; simp at hR0 hR1 hR2
      have y0 := hR.frozen 0; have y1 := hR.frozen 1; have y2 := hR.frozen 2; simp at y0 y1 y2
      have hrd := Lib.hid hown.reads
      have hge := Lib.hid hown.ge
      have hW := Lib.hid hW
      have hcap : S.length ≤ cc ∧ cc ≤ maxLen := by
        rcases hown.2 with ⟨e, h0⟩ | ⟨g, cap, cur, e, _, _, h1, h2, _⟩
        · injection e with _ e2 e3; simp only [maxLen]; omega
        · injection e with _ _ e3; omega
      have hcap := Lib.hid hcap
      clear hown hbw hlenL hTT hS hC hR hB g0 g1 g2 hsz hlt
      go_wp2
      refine bodyPost_ret (v := .tuple #[.agg #[.int .i64 s, .int .i64 p, .slice A' S.length cc], .int .i64 0]) (by simp [results, Try.results27, go_sem, hR0, hR1, hR2]) rfl ⟨⟨A', cc, rfl, ?_, hcap.out.1, hcap.out.2, hge.out.mono (by omega)⟩, ?_⟩
      · exact ((hrd.out.far hge.out (p := ⟨w.heap.size + 1, 0, none⟩) (by simp; omega) _).far hge.out (p := ⟨w.heap.size + 1, 1, none⟩) (by simp; omega) _).far hge.out (p := ⟨w.heap.size + 1, 2, none⟩) (by simp; omega) _
      · exact ((hW.out.setCell (by simp) _).setCell (by simp) _).setCell (by simp) _
end Go.Proofs.Ytnieceplfjmocaa
