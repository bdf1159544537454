/-
  granule.Shift: one result for every input.
-/
import Derived.Test.YtnieceplfjmocaaShift
namespace Go.Proofs.Ytnieceplfjmocaa
open Go.RowKit Go.BigFrame

/-- an answer that is a calendar and an error number -/
def CalE (e : Ending) (w' : World) (B : Nat) (o p : Int) (l : List Sp) (E : Int) : Prop :=
  ∃ A c, e = .returned (.tuple #[.agg #[.int .i64 o, .int .i64 p, .slice A l.length c], .int .i64 E]) ∧ SpsR w' A l ∧ l.length ≤ c ∧ c ≤ maxLen ∧ From B A
theorem CalE.err {e : Ending} {w' : World} {B : Nat} {E : Int} (h : e = .returned (.tuple #[.agg #[.int .i64 0, .int .i64 0, .slice none 0 0], .int .i64 E])) : CalE e w' B 0 0 [] E :=
  ⟨none, 0, h, fun h => absurd h (by simp), by simp, by simp [maxLen], fun ad h => by cases h⟩

def shE (o p : Int) (l : List Sp) (n : Int) : Int := if validB o p l then (if halfB (atF o p l n) then 0 else 2) else 1
def shO (o p : Int) (l : List Sp) (n : Int) : Int := if shE o p l n = 0 then atF o p l n else 0
def shP (o p : Int) (l : List Sp) (n : Int) : Int := if shE o p l n = 0 then p else 0
def shL (o p : Int) (l : List Sp) (n : Int) : List Sp := if shE o p l n = 0 then shl o p l n else []
theorem sh_inv {o p n : Int} {l : List Sp} (hv : validB o p l = false) : shE o p l n = 1 ∧ shO o p l n = 0 ∧ shP o p l n = 0 ∧ shL o p l n = [] := by
  have : shE o p l n = 1 := by simp [shE, hv]
  simp [shO, shP, shL, this]
theorem sh_far {o p n : Int} {l : List Sp} (hv : validB o p l = true) (hh : halfB (atF o p l n) = false) : shE o p l n = 2 ∧ shO o p l n = 0 ∧ shP o p l n = 0 ∧ shL o p l n = [] := by
  have : shE o p l n = 2 := by simp [shE, hv, hh]
  simp [shO, shP, shL, this]
theorem sh_ok {o p n : Int} {l : List Sp} (hv : validB o p l = true) (hh : halfB (atF o p l n) = true) : shE o p l n = 0 ∧ shO o p l n = atF o p l n ∧ shP o p l n = p ∧ shL o p l n = shl o p l n := by
  have : shE o p l n = 0 := by simp [shE, hv, hh]
  simp [shO, shP, shL, this]
theorem shl_take (o p : Int) {l : List Sp} (n : Int) {k : Nat} (h : k < l.length) : (shl o p l n).take (k + 1) = (shl o p l n).take k ++ [(atF o p l (n + k) - atF o p l n, atT o p l (n + k) - atF o p l n)] := by
  rw [List.take_succ_eq_append_getElem (by rw [shl_len]; exact h), list_fr _ (by rw [shl_len]; exact h), fr_shl o p n h, tt_shl o p n h]

theorem atb {o p : Int} {l : List Sp} (hv : Vd o p l) {n : Int} (hh : halfB (atF o p l n) = true) {i : Nat} (hi : i < l.length) :
    -4398046511104 ≤ atF o p l (n + i) ∧ atF o p l (n + i) ≤ 4398046511104 ∧ -4398046511104 ≤ atT o p l (n + i) ∧ atT o p l (n + i) ≤ 4398046511104 := by
  have h1 := halfB_iff.1 hh
  have h2 := sh_bd hv n hi
  rw [fr_shl o p n hi, tt_shl o p n hi] at h2
  have := hv.p2
  omega

set_option maxHeartbeats 4000000 in
theorem shift_inv (o p n : Int) (A : Option Addr) (c : Nat) (l : List Sp) (w : World) (h : SpsR w A l) (hn : l.length ≤ maxLen) (hv : validB o p l = false) :
    Calls Try.prog 26 #[.agg #[.int .i64 o, .int .i64 p, .slice A l.length c], .int .i64 n] w fun e w' => CalE e w' w.heap.size 0 0 [] 1 ∧ Below w.heap.size w w' := by
  have HN := Lib.hid hn
  have HV := Lib.hid hv
  have hW := ((Below.refl w.heap.size w).alloc (Nat.le_refl _) (.cells #[.int .i64 o, .int .i64 p, .slice A l.length c] 24)).alloc (by simp) (.cells #[.int .i64 0, .int .i64 0, .slice none 0 0] 24)
  have K0 := Lib.hid ((((Kp.sps h).alloc (.cells #[.int .i64 o, .int .i64 p, .slice A l.length c] 24)).alloc (.cells #[.int .i64 0, .int .i64 0, .slice none 0 0] 24)).and ((Kp.blk (Blk.new (w.alloc (.cells #[.int .i64 o, .int .i64 p, .slice A l.length c] 24)) 24 #[.int .i64 0, .int .i64 0, .slice none 0 0])).and (Kp.bel hW)))
  clear h hn hv hW
  go_enter Try.func26, Try.ntmps26
  go_wp2_with (go_at_call 13; refine (valid_at _ K0.out.now.1 HN.out HV.out).mono ?_; rintro e w1 ⟨rfl, hb1⟩; have K1 := Lib.hid (K0.out.next hb1); obtain ⟨-, hR, hW⟩ := K1.out.now; have g0 := hR.cell 0; have g1 := hR.cell 1; have g2 := hR.cell 2; have y0 := hR.frozen 0; have y1 := hR.frozen 1; have y2 := hR.frozen 2; simp at g0 g1 g2 y0 y1 y2; have hlt := hR.lt; simp at hlt; have HW := Lib.hid hW; clear hW hR)
  refine bodyPost_ret (v := .tuple #[.agg #[.int .i64 0, .int .i64 0, .slice none 0 0], .int .i64 1]) (by simp [results, Try.results26, go_sem, g0, g1, g2]) rfl ⟨CalE.err rfl, ?_⟩
  exact ((HW.out.setCell (by simp) _).setCell (by simp) _).setCell (by simp) _

set_option maxHeartbeats 4000000 in
theorem shift_far (o p n : Int) (A : Option Addr) (c : Nat) (l : List Sp) (w : World) (h : SpsR w A l) (hv : validB o p l = true) (hk1 : -9223372036854775808 ≤ n) (hk2 : n ≤ 9223372036854775807) (hh : halfB (atF o p l n) = false) :
    Calls Try.prog 26 #[.agg #[.int .i64 o, .int .i64 p, .slice A l.length c], .int .i64 n] w fun e w' => CalE e w' w.heap.size 0 0 [] 2 ∧ Below w.heap.size w w' := by
  have hvd := Vd.of hv
  have HN := Lib.hid (show l.length ≤ maxLen by have := hvd.n5; simp only [maxLen]; omega)
  have HV := Lib.hid hv
  have HD := Lib.hid hvd
  have HH := Lib.hid hh
  have hW := ((Below.refl w.heap.size w).alloc (Nat.le_refl _) (.cells #[.int .i64 o, .int .i64 p, .slice A l.length c] 24)).alloc (by simp) (.cells #[.int .i64 0, .int .i64 0, .slice none 0 0] 24)
  have K0 := Lib.hid ((((Kp.sps h).alloc (.cells #[.int .i64 o, .int .i64 p, .slice A l.length c] 24)).alloc (.cells #[.int .i64 0, .int .i64 0, .slice none 0 0] 24)).and (((Kp.blk (Blk.new w 24 #[.int .i64 o, .int .i64 p, .slice A l.length c])).alloc (.cells #[.int .i64 0, .int .i64 0, .slice none 0 0] 24)).and ((Kp.blk (Blk.new (w.alloc (.cells #[.int .i64 o, .int .i64 p, .slice A l.length c] 24)) 24 #[.int .i64 0, .int .i64 0, .slice none 0 0])).and (Kp.bel hW))))
  clear h hv hvd hh hW
  go_enter Try.func26, Try.ntmps26
  go_wp2_with (first | (go_at_call 13; refine (valid_at _ K0.out.now.1 HN.out HV.out).mono ?_; rintro e w1 ⟨rfl, hb1⟩; have K1 := Lib.hid (K0.out.next hb1); obtain ⟨-, hC, -, -⟩ := K1.out.now; have g0 := hC.cell 0; have g1 := hC.cell 1; have g2 := hC.cell 2; simp at g0 g1 g2; clear hC) | (go_at_call 55; refine (far_at _ K1.out.now.1 HD.out hk1 hk2 HH.out).mono ?_; rintro e w2 ⟨rfl, hb2⟩; have K2 := Lib.hid (K1.out.next hb2); obtain ⟨-, -, hR, hW⟩ := K2.out.now; clear g0 g1 g2; have g0 := hR.cell 0; have g1 := hR.cell 1; have g2 := hR.cell 2; have y0 := hR.frozen 0; have y1 := hR.frozen 1; have y2 := hR.frozen 2; simp at g0 g1 g2 y0 y1 y2; have hlt := hR.lt; simp at hlt; have HW := Lib.hid hW; clear hW hR))
  refine bodyPost_ret (v := .tuple #[.agg #[.int .i64 0, .int .i64 0, .slice none 0 0], .int .i64 2]) (by simp [results, Try.results26, go_sem, g0, g1, g2]) rfl ⟨CalE.err rfl, ?_⟩
  exact ((HW.out.setCell (by simp) _).setCell (by simp) _).setCell (by simp) _

set_option maxRecDepth 20000 in
set_option maxHeartbeats 8000000 in
theorem shift_ok (o p n : Int) (A : Option Addr) (c : Nat) (l : List Sp) (w : World) (h : SpsR w A l) (hv : validB o p l = true) (hh : halfB (atF o p l n) = true) :
    Calls Try.prog 26 #[.agg #[.int .i64 o, .int .i64 p, .slice A l.length c], .int .i64 n] w fun e w' => CalE e w' w.heap.size (atF o p l n) p (shl o p l n) 0 ∧ Below w.heap.size w w' := by
  have hvd := Vd.of hv
  have hn0 := hvd.n0
  have hn5 := hvd.n5
  have hp1 := hvd.p1
  have hp2 := hvd.p2
  obtain ⟨q1, q2, n1, n2⟩ := half_small hvd hh
  have HN := Lib.hid (show l.length ≤ maxLen by simp only [maxLen]; omega)
  have HV := Lib.hid hv
  have HD := Lib.hid hvd
  have HH := Lib.hid hh
  have HAB := Lib.hid (fun i (hi : i < l.length) => atb hvd hh hi)
  have HSN := Lib.hid (fun i (hi : i < l.length) => small_next hvd hh hi)
  have HST := Lib.hid (fun k (hk : k < l.length) => shl_take o p n hk)
  have hab := atb hvd hh (i := 0) hn0
  have hlen := shl_len o p l n
  simp only [Int.natCast_zero, Int.add_zero] at hab
  have hW := ((Below.refl w.heap.size w).alloc (Nat.le_refl _) (.cells #[.int .i64 o, .int .i64 p, .slice A l.length c] 24)).alloc (by simp) (.cells #[.int .i64 0, .int .i64 0, .slice none 0 0] 24)
  have K0 := Lib.hid ((((Kp.sps h).alloc (.cells #[.int .i64 o, .int .i64 p, .slice A l.length c] 24)).alloc (.cells #[.int .i64 0, .int .i64 0, .slice none 0 0] 24)).and (((Kp.blk (Blk.new w 24 #[.int .i64 o, .int .i64 p, .slice A l.length c])).alloc (.cells #[.int .i64 0, .int .i64 0, .slice none 0 0] 24)).and ((Kp.blk (Blk.new (w.alloc (.cells #[.int .i64 o, .int .i64 p, .slice A l.length c] 24)) 24 #[.int .i64 0, .int .i64 0, .slice none 0 0])).and (Kp.bel hW))))
  have HLen := Lib.hid hlen
  have HQ : Hid (-1125899906842624 ≤ p * (n / (l.length : Int)) ∧ p * (n / (l.length : Int)) ≤ 1125899906842624) := Lib.hid ⟨by omega, by omega⟩
  clear h hv hvd hh hW hlen q1 q2
  generalize shl o p l n = S at *
  obtain ⟨s, hs⟩ : ∃ s, atF o p l n = s := ⟨_, rfl⟩
  obtain ⟨t, ht⟩ : ∃ t, atT o p l n = t := ⟨_, rfl⟩
  rw [hs, ht] at hab
  rw [hs] at HST ⊢
  obtain ⟨s1, s2, t1, t2⟩ := hab
  have Hs := Lib.hid hs
  have Ht := Lib.hid ht
  clear hs ht
  go_enter Try.func26, Try.ntmps26
  go_wp2_with (first | (go_at_call 13; refine (valid_at _ K0.out.now.1 HN.out HV.out).mono ?_; rintro e w1 ⟨rfl, hb1⟩; have K1 := Lib.hid (K0.out.next hb1); obtain ⟨-, hC, -, -⟩ := K1.out.now; have g0 := hC.cell 0; have g1 := hC.cell 1; have g2 := hC.cell 2; simp at g0 g1 g2; clear hC) | (go_at_call 55; refine (far_at _ K1.out.now.1 HD.out (by omega) (by omega) HH.out).mono ?_; rintro e w2 ⟨rfl, hb2⟩; have K2 := Lib.hid (K1.out.next hb2); obtain ⟨-, hC, -, -⟩ := K2.out.now; clear g0 g1 g2; have g0 := hC.cell 0; have g1 := hC.cell 1; have g2 := hC.cell 2; simp at g0 g1 g2; clear hC) | (go_at_call 52; refine (at_at _ K2.out.now.1 HD.out (by omega) (by omega) HQ.out Hs.out Ht.out).mono ?_; rintro e w3 ⟨rfl, hb3⟩; have K3 := Lib.hid (((K2.out.next hb3).alloc (.cells #[.int .i64 s, .int .i64 t] 28)).and (Kp.blk (Blk.new w3 28 #[.int .i64 s, .int .i64 t]))); obtain ⟨⟨-, hC, -, -⟩, -⟩ := K3.out.now; clear g0 g1 g2; have g0 := hC.cell 0; have g1 := hC.cell 1; have g2 := hC.cell 2; simp at g0 g1 g2; clear hC))
  go_loopw [7, 24] (fun v x wr => ∃ (k : Nat) (A : Option Addr) (cc : Nat), k ≤ l.length ∧ x = .int .i64 k ∧ v = .slice A (S.take k).length cc ∧ OwnSp wr (w3.heap.size + 1) A cc (S.take k) ∧ Below (w3.alloc (.cells #[.int .i64 s, .int .i64 t] 28)).heap.size (w3.alloc (.cells #[.int .i64 s, .int .i64 t] 28)) wr) (fun _ x _ => l.length - (intOf x).toNat)
  case atStart => exact ⟨0, none, 0, by omega, rfl, rfl, OwnSp.nil _ _, Below.refl _ _⟩
  case round =>
    obtain ⟨k, A', cc, hk, rfl, rfl, hown, hbw⟩ := hrel
    have K4 := Lib.hid (K3.out.next hbw)
    obtain ⟨⟨-, hC, hR, hW⟩, hT⟩ := K4.out.now
    clear g0 g1 g2
    have g0 := hC.cell 0; have g1 := hC.cell 1; have g2 := hC.cell 2; simp at g0 g1 g2
    have hsz := hbw.size
    simp at hsz
    have hlenL : (S.take k).length = k := by rw [List.length_take, HLen.out]; omega
    by_cases hlt : k < l.length
    · have HT := Lib.hid (HST.out k hlt)
      obtain ⟨b1, b2, b3, b4⟩ := HAB.out k hlt
      have HS1 := Lib.hid (HSN.out k hlt)
      obtain ⟨x, hx⟩ : ∃ x, atF o p l (n + k) = x := ⟨_, rfl⟩
      obtain ⟨y, hy⟩ : ∃ y, atT o p l (n + k) = y := ⟨_, rfl⟩
      rw [hx] at b1 b2
      rw [hy] at b3 b4
      rw [hx, hy] at HT
      have HX := Lib.hid hx
      have HY := Lib.hid hy
      have HO := Lib.hid hown
      have HW := Lib.hid hbw
      clear hx hy hown hbw hC hR hW hT K3
      generalize S.take k = L at *
      have hL5 : L.length ≤ 5000 := by omega
      have HL := Lib.hid hlenL
      clear hlenL
      go_wp2_with fail
      refine (at_at _ K4.out.now.1.1 HD.out (by omega) (by omega) HS1.out HX.out HY.out).mono ?_
      rintro e w5 ⟨rfl, hb5⟩
      have K5 := Lib.hid ((K4.out.next hb5).alloc (.cells #[.int .i64 x, .int .i64 y] 28))
      have HO5 := Lib.hid ((HO.out.below hb5).alloc (.cells #[.int .i64 x, .int .i64 y] 28))
      have hW5 := (below_next HW.out hb5).alloc (below_next HW.out hb5).size (.cells #[.int .i64 x, .int .i64 y] 28)
      have hsz5 := hW5.size
      simp at hsz5
      have HW5 := Lib.hid hW5
      obtain ⟨⟨-, hC, -, -⟩, hT⟩ := K5.out.now
      clear g0 g1 g2 HO HW hb5 K4 hW5
      have g3 := hT.cell 0; have g4 := hT.cell 1; simp at g3 g4
      clear hC hT
      go_wp2_with (at_builtin; refine wpList_append_span rfl (.tmp 32) (.tmp 44) rfl (w3.heap.size + 1) A' cc L rfl (HO5.out.alloc _) (w5.heap.size + 1) 0 1 (x - s) (y - s) rfl ?h0 ?h1 ?hl ?hb ?_)
      case h0 => simp [go_sem]
      case h1 => simp [go_sem]
      case hl => omega
      case hb => simp; omega
      intro A2 c2 w6 hown2 hgr2
      have hB2 := (HW5.out.alloc HW5.out.size (.cells #[.int .i64 (x - s), .int .i64 (y - s)] 28)).grown hgr2 (by simp; omega) (fun g e => by have h9 := (HO5.out.blk _ e).1; simpa using h9)
      have HO2 := Lib.hid hown2
      have HB2 := Lib.hid hB2
      clear hown2 hB2 hgr2 g3 g4
      go_wp2
      go_roundw
      case rel => exact ⟨k + 1, A2, c2, by omega, by go_num, by rw [HT.out, List.length_append]; rfl, by rw [HT.out]; exact HO2.out, HB2.out⟩
      case measure => simp [intOf]; omega
    · have hke : k = l.length := by omega
      subst hke
      have hSt : S.take l.length = S := List.take_of_length_le (by rw [HLen.out]; exact Nat.le_refl _)
      rw [hSt] at hown hlenL
      have g3 := hT.cell 0; simp at g3
      have z0 := hR.cell 0; have z1 := hR.cell 1; have z2 := hR.cell 2; have y0 := hR.frozen 0; have y1 := hR.frozen 1; have y2 := hR.frozen 2; simp at z0 z1 z2 y0 y1 y2
      have hlt2 := hR.lt
      have hrd := hown.reads
      have hge := hown.ge
      have hkc : S.length ≤ cc := by
        rcases hown.2 with ⟨e, _⟩ | ⟨g, cap, cur, e, _, _, h1, _⟩
        · injection e with _ e2 _; omega
        · injection e with _ _ e3; omega
      have hcm : cc ≤ maxLen := by
        rcases hown.2 with ⟨e, _⟩ | ⟨g, cap, cur, e, _, _, _, h1, _⟩
        · injection e with _ _ e3; omega
        · injection e with _ _ e3; omega
      have HRD := Lib.hid hrd
      have HGE := Lib.hid hge
      have HKC := Lib.hid hkc
      have HCM := Lib.hid hcm
      have HW := Lib.hid hW
      have hw3 : w.heap.size + 1 < w3.heap.size + 1 := by have h9 := (K2.out.next hb3).now.2.2.1.lt; simp at h9; omega
      rw [hSt]
      clear hown hbw hC hR hW hT hrd hge hkc hcm hSt
      go_wp2
      refine bodyPost_ret (v := .tuple #[.agg #[.int .i64 s, .int .i64 p, .slice A' S.length cc], .int .i64 0]) (by simp [results, Try.results26, go_sem, z0, z1, z2, hlenL]) rfl ⟨⟨A', cc, rfl, ?_, HKC.out, HCM.out, HGE.out.mono (by omega)⟩, ?_⟩
      · exact ((HRD.out.far HGE.out (p := ⟨w.heap.size + 1, 0, none⟩) (by simp; omega) _).far HGE.out (p := ⟨w.heap.size + 1, 1, none⟩) (by simp; omega) _).far HGE.out (p := ⟨w.heap.size + 1, 2, none⟩) (by simp; omega) _
      · exact ((HW.out.setCell (by simp) _).setCell (by simp) _).setCell (by simp) _

theorem shift_any (o p n : Int) (A : Option Addr) (c : Nat) (l : List Sp) (w : World) (h : SpsR w A l) (hn : l.length ≤ maxLen) (hk1 : -9223372036854775808 ≤ n) (hk2 : n ≤ 9223372036854775807) :
    Calls Try.prog 26 #[.agg #[.int .i64 o, .int .i64 p, .slice A l.length c], .int .i64 n] w fun e w' => CalE e w' w.heap.size (shO o p l n) (shP o p l n) (shL o p l n) (shE o p l n) ∧ Below w.heap.size w w' := by
  cases hv : validB o p l with
  | false =>
    obtain ⟨e1, e2, e3, e4⟩ := sh_inv (n := n) hv
    rw [e1, e2, e3, e4]
    exact shift_inv o p n A c l w h hn hv
  | true =>
    cases hh : halfB (atF o p l n) with
    | false =>
      obtain ⟨e1, e2, e3, e4⟩ := sh_far hv hh
      rw [e1, e2, e3, e4]
      exact shift_far o p n A c l w h hv hk1 hk2 hh
    | true =>
      obtain ⟨e1, e2, e3, e4⟩ := sh_ok hv hh
      rw [e1, e2, e3, e4]
      exact shift_ok o p n A c l w h hv hh
end Go.Proofs.Ytnieceplfjmocaa
