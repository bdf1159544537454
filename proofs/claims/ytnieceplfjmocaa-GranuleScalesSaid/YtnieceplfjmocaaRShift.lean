/-
  The reference's Shift.
-/
import Derived.Test.YtnieceplfjmocaaShiftM
import Derived.Test.YtnieceplfjmocaaRSpan
import Derived.Deep.RegionHeld3
import Derived.RegionTactic
import Derived.BigRegion
namespace Go.Proofs.Ytnieceplfjmocaa
open Go.RowKit Go.BigFrame

theorem half_on {o p : Int} {l : List Sp} {n : Int} (hv : Vd o p l) (hh : halfB (atF o p l n) = true) : onB o p l n = true := by
  have h := atb hv hh (i := 0) hv.n0
  simp only [Int.natCast_zero, Int.add_zero] at h
  rw [onB, lineB_iff.2 ⟨h.1, h.2.1⟩, lineB_iff.2 ⟨h.2.2.1, h.2.2.2⟩]; rfl

/-- the parts of the shifted list, by the place in the list -/
theorem sh_place {o p : Int} {l : List Sp} (_hv : Vd o p l) (n : Int) {r : Nat} (hr : r < l.length) (hn : n = (l.length : Int) * (n / (l.length : Int)) + r) {k : Nat} (hk : k < l.length) :
    (r + k < l.length → atF o p l (n + k) - atF o p l n = fr l (r + k) - fr l r ∧ atT o p l (n + k) - atF o p l n = tt l (r + k) - fr l r) ∧
    (l.length ≤ r + k → atF o p l (n + k) - atF o p l n = fr l (r + k - l.length) + p - fr l r ∧ atT o p l (n + k) - atF o p l n = tt l (r + k - l.length) + p - fr l r) := by
  generalize n / (l.length : Int) = q at hn
  subst hn
  obtain ⟨_, _, a1, _⟩ := at_mk o p q hr
  rw [a1]
  constructor
  · intro h
    obtain ⟨_, _, b1, b2⟩ := at_mk o p q h
    have e : (l.length : Int) * q + r + k = (l.length : Int) * q + ((r + k : Nat) : Int) := by omega
    rw [e, b1, b2]; omega
  · intro h
    obtain ⟨_, _, b1, b2⟩ := at_mk o p (q + 1) (show r + k - l.length < l.length by omega)
    have e : (l.length : Int) * q + r + k = (l.length : Int) * (q + 1) + ((r + k - l.length : Nat) : Int) := by rw [Int.mul_add]; omega
    rw [e, b1, b2, Int.mul_add]; omega

set_option maxHeartbeats 4000000 in
theorem rshift_inv (o p n : Int) (A : Option Addr) (c : Nat) (l : List Sp) (w : World) (h : SpsR w A l) (hn : l.length ≤ maxLen) (hv : validB o p l = false) :
    Calls Try.prog 27 #[.agg #[.int .i64 o, .int .i64 p, .slice A l.length c], .int .i64 n] w fun e w' => CalE e w' w.heap.size 0 0 [] 1 ∧ Below w.heap.size w w' := by
  have HN := Lib.hid hn
  have HV := Lib.hid hv
  have hW := ((Below.refl w.heap.size w).alloc (Nat.le_refl _) (.cells #[.int .i64 o, .int .i64 p, .slice A l.length c] 24)).alloc (by simp) (.cells #[.int .i64 0, .int .i64 0, .slice none 0 0] 24)
  have K0 := Lib.hid ((((Kp.sps h).alloc (.cells #[.int .i64 o, .int .i64 p, .slice A l.length c] 24)).alloc (.cells #[.int .i64 0, .int .i64 0, .slice none 0 0] 24)).and ((Kp.blk (Blk.new (w.alloc (.cells #[.int .i64 o, .int .i64 p, .slice A l.length c] 24)) 24 #[.int .i64 0, .int .i64 0, .slice none 0 0])).and (Kp.bel hW)))
  clear h hn hv hW
  go_enter Try.func27, Try.ntmps27
  go_wp2_with (go_at_call 20; refine (rvalidC_at _ K0.out.now.1 HN.out HV.out).mono ?_; rintro e w1 ⟨rfl, hb1⟩; have K1 := Lib.hid (K0.out.next hb1); obtain ⟨-, hR, hW⟩ := K1.out.now; have g0 := hR.cell 0; have g1 := hR.cell 1; have g2 := hR.cell 2; have y0 := hR.frozen 0; have y1 := hR.frozen 1; have y2 := hR.frozen 2; simp at g0 g1 g2 y0 y1 y2; have hlt := hR.lt; simp at hlt; have HW := Lib.hid hW; clear hW hR)
  refine bodyPost_ret (v := .tuple #[.agg #[.int .i64 0, .int .i64 0, .slice none 0 0], .int .i64 1]) (by simp [results, Try.results27, go_sem, g0, g1, g2]) rfl ⟨CalE.err rfl, ?_⟩
  exact ((HW.out.setCell (by simp) _).setCell (by simp) _).setCell (by simp) _

set_option maxHeartbeats 4000000 in
theorem rshift_far (o p n : Int) (A : Option Addr) (c : Nat) (l : List Sp) (w : World) (h : SpsR w A l) (hv : validB o p l = true) (hk1 : -9223372036854775808 ≤ n) (hk2 : n ≤ 9223372036854775807) (hh : halfB (atF o p l n) = false) :
    Calls Try.prog 27 #[.agg #[.int .i64 o, .int .i64 p, .slice A l.length c], .int .i64 n] w fun e w' => CalE e w' w.heap.size 0 0 [] 2 ∧ Below w.heap.size w w' := by
  have hvd := Vd.of hv
  have HN := Lib.hid (show l.length ≤ maxLen by have := hvd.n5; simp only [maxLen]; omega)
  have HV := Lib.hid hv
  have HD := Lib.hid hvd
  have hW := ((Below.refl w.heap.size w).alloc (Nat.le_refl _) (.cells #[.int .i64 o, .int .i64 p, .slice A l.length c] 24)).alloc (by simp) (.cells #[.int .i64 0, .int .i64 0, .slice none 0 0] 24)
  have K0 := Lib.hid ((((Kp.sps h).alloc (.cells #[.int .i64 o, .int .i64 p, .slice A l.length c] 24)).alloc (.cells #[.int .i64 0, .int .i64 0, .slice none 0 0] 24)).and (((Kp.blk (Blk.new w 24 #[.int .i64 o, .int .i64 p, .slice A l.length c])).alloc (.cells #[.int .i64 0, .int .i64 0, .slice none 0 0] 24)).and ((Kp.blk (Blk.new (w.alloc (.cells #[.int .i64 o, .int .i64 p, .slice A l.length c] 24)) 24 #[.int .i64 0, .int .i64 0, .slice none 0 0])).and (Kp.bel hW))))
  clear h hv hvd hW
  cases ho : onB o p l n with
  | false =>
    have HO := Lib.hid ho
    clear ho
    go_enter Try.func27, Try.ntmps27
    go_wp2_with (first | (go_at_call 20; refine (rvalidC_at _ K0.out.now.1 HN.out HV.out).mono ?_; rintro e w1 ⟨rfl, hb1⟩; have K1 := Lib.hid (K0.out.next hb1); obtain ⟨-, hC, -, -⟩ := K1.out.now; have g0 := hC.cell 0; have g1 := hC.cell 1; have g2 := hC.cell 2; simp at g0 g1 g2; clear hC) | (go_at_call 56; refine (rat_off _ K1.out.now.1 HD.out hk1 hk2 HO.out).mono ?_; rintro e w2 ⟨ra, rb, rfl, hb2⟩; have K2 := Lib.hid ((K1.out.next hb2).alloc (.cells #[.int .i64 ra, .int .i64 rb] 28)); obtain ⟨-, -, hR, hW⟩ := K2.out.now; clear g0 g1 g2; have g0 := hR.cell 0; have g1 := hR.cell 1; have g2 := hR.cell 2; have y0 := hR.frozen 0; have y1 := hR.frozen 1; have y2 := hR.frozen 2; simp at g0 g1 g2 y0 y1 y2; have hlt := hR.lt; simp at hlt; have HW := Lib.hid hW; clear hW hR))
    refine bodyPost_ret (v := .tuple #[.agg #[.int .i64 0, .int .i64 0, .slice none 0 0], .int .i64 2]) (by simp [results, Try.results27, go_sem, g0, g1, g2]) rfl ⟨CalE.err rfl, ?_⟩
    exact ((HW.out.setCell (by simp) _).setCell (by simp) _).setCell (by simp) _
  | true =>
    have HO := Lib.hid ho
    obtain ⟨s, hs⟩ : ∃ s, atF o p l n = s := ⟨_, rfl⟩
    obtain ⟨t, ht⟩ : ∃ t, atT o p l n = t := ⟨_, rfl⟩
    have HST : Hid (∀ w : World, SpsR w A l → Calls Try.prog 56 #[.agg #[.int .i64 o, .int .i64 p, .slice A l.length c], .int .i64 n] w fun e w' => e = .returned (.tuple #[.agg #[.int .i64 s, .int .i64 t], .bool true]) ∧ Below w.heap.size w w') := Lib.hid (fun w hw => by
      rw [← hs, ← ht]; exact rat_on w hw HD.out hk1 hk2 HO.out)
    rw [hs] at hh
    have hs12 : s < -2199023255552 ∨ (-2199023255552 ≤ s ∧ 2199023255552 < s) := by
      rcases Int.lt_or_le s (-2199023255552) with h1 | h1
      · exact .inl h1
      · rcases Int.lt_or_le 2199023255552 s with h2 | h2
        · exact .inr ⟨h1, h2⟩
        · rw [halfB_iff.2 ⟨h1, h2⟩] at hh; cases hh
    clear ho hs ht hh
    rcases hs12 with h1 | ⟨h1, h2⟩
    · have d1 : decide (s < -2199023255552) = true := decide_eq_true h1
      go_enter Try.func27, Try.ntmps27
      go_wp2_with (first | (go_at_call 20; refine (rvalidC_at _ K0.out.now.1 HN.out HV.out).mono ?_; rintro e w1 ⟨rfl, hb1⟩; have K1 := Lib.hid (K0.out.next hb1); obtain ⟨-, hC, -, -⟩ := K1.out.now; have g0 := hC.cell 0; have g1 := hC.cell 1; have g2 := hC.cell 2; simp at g0 g1 g2; clear hC) | (go_at_call 56; refine (HST.out _ K1.out.now.1).mono ?_; rintro e w2 ⟨rfl, hb2⟩; have K2 := Lib.hid ((K1.out.next hb2).alloc (.cells #[.int .i64 s, .int .i64 t] 28)); obtain ⟨-, -, hR, hW⟩ := K2.out.now; clear g0 g1 g2; have g0 := hR.cell 0; have g1 := hR.cell 1; have g2 := hR.cell 2; have y0 := hR.frozen 0; have y1 := hR.frozen 1; have y2 := hR.frozen 2; simp at g0 g1 g2 y0 y1 y2; have hlt := hR.lt; simp at hlt; have HW := Lib.hid hW; clear hW hR))
      refine bodyPost_ret (v := .tuple #[.agg #[.int .i64 0, .int .i64 0, .slice none 0 0], .int .i64 2]) (by simp [results, Try.results27, go_sem, g0, g1, g2]) rfl ⟨CalE.err rfl, ?_⟩
      exact ((HW.out.setCell (by simp) _).setCell (by simp) _).setCell (by simp) _
    · have d1 : decide (s < -2199023255552) = false := decide_eq_false (by omega)
      have d2 : decide (2199023255552 < s) = true := decide_eq_true h2
      go_enter Try.func27, Try.ntmps27
      go_wp2_with (first | (go_at_call 20; refine (rvalidC_at _ K0.out.now.1 HN.out HV.out).mono ?_; rintro e w1 ⟨rfl, hb1⟩; have K1 := Lib.hid (K0.out.next hb1); obtain ⟨-, hC, -, -⟩ := K1.out.now; have g0 := hC.cell 0; have g1 := hC.cell 1; have g2 := hC.cell 2; simp at g0 g1 g2; clear hC) | (go_at_call 56; refine (HST.out _ K1.out.now.1).mono ?_; rintro e w2 ⟨rfl, hb2⟩; have K2 := Lib.hid ((K1.out.next hb2).alloc (.cells #[.int .i64 s, .int .i64 t] 28)); obtain ⟨-, -, hR, hW⟩ := K2.out.now; clear g0 g1 g2; have g0 := hR.cell 0; have g1 := hR.cell 1; have g2 := hR.cell 2; have y0 := hR.frozen 0; have y1 := hR.frozen 1; have y2 := hR.frozen 2; simp at g0 g1 g2 y0 y1 y2; have hlt := hR.lt; simp at hlt; have HW := Lib.hid hW; clear hW hR))
      refine bodyPost_ret (v := .tuple #[.agg #[.int .i64 0, .int .i64 0, .slice none 0 0], .int .i64 2]) (by simp [results, Try.results27, go_sem, g0, g1, g2]) rfl ⟨CalE.err rfl, ?_⟩
      exact ((HW.out.setCell (by simp) _).setCell (by simp) _).setCell (by simp) _
end Go.Proofs.Ytnieceplfjmocaa
