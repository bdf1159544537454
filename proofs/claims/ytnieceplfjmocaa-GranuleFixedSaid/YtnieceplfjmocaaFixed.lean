/-
  granule.Fixed, and the walk of GranuleFixed.
-/
import Derived.Test.YtnieceplfjmocaaOfLaw
namespace Go.Proofs.Ytnieceplfjmocaa
open Go.RowKit Go.BigFrame

theorem one_sps (w : World) (g : Nat) (a b : Int) (h0 : w.cell? ⟨g, 0, none⟩ = some (.int .i64 a)) (h1 : w.cell? ⟨g, 1, none⟩ = some (.int .i64 b)) : SpsR w (some ⟨g, 0, none⟩) [(a, b)] := fun _ => ⟨g, 0, rfl, fun k hk => by
  have : k = 0 := by simp at hk; omega
  subst this
  exact ⟨h0, h1⟩⟩

theorem fix_parts {o L : Int} (h : ofErr o L [(0, L)] = 0) : ofRO o L [(0, L)] = o ∧ ofRP o L [(0, L)] = L ∧ ofRL o L [(0, L)] = [(0, L)] ∧ Vd o L [(0, L)] := by
  have hok := ofErr_zero.1 h
  obtain ⟨m1, m2, _, _⟩ := leastN_spec (p := L) (l := shiftL [((0 : Int), L)] 0) (by simp [shiftL])
  have hm : ofM L [(0, L)] = 1 := by
    have h1 : leastN L (shiftL [((0 : Int), L)] 0) = ofM L [(0, L)] := rfl
    have h2 : (shiftL [((0 : Int), L)] 0).length = 1 := rfl
    omega
  have e1 : fr [((0 : Int), L)] 0 = 0 := rfl
  have e2 : ofL L [(0, L)] = [(0, L)] := by unfold ofL; rw [hm, e1]; simp [shiftL]
  have e3 : ofP L [(0, L)] = L := by unfold ofP; rw [hm]; simp
  have hv := of_valid hok
  rw [e1, e2, e3] at hv
  have e4 : o + 0 = o := by omega
  rw [e4] at hv
  refine ⟨by rw [ofRO, if_pos h, e1]; omega, by rw [ofRP, if_pos h, e3], by rw [ofRL, if_pos h, e2], hv⟩

set_option maxRecDepth 20000 in
set_option maxHeartbeats 4000000 in
theorem fixed_any (o L : Int) (w : World) :
    Calls Try.prog 23 #[.int .i64 o, .int .i64 L] w fun e w' => OfRes e w' w.heap.size o L [(0, L)] ∧ Below w.heap.size w w' := by
  have HB := Lib.hid ((Blk.new w 24 #[.int .i64 0, .int .i64 0, .slice none 0 0]).alloc (.cells #[.int .i64 0, .int .i64 L] 28))
  have hW := ((Below.refl w.heap.size w).alloc (Nat.le_refl _) (.cells #[.int .i64 0, .int .i64 0, .slice none 0 0] 24)).alloc (by simp) (.cells #[.int .i64 0, .int .i64 L] 28)
  have HW := Lib.hid hW
  have hS := one_sps ((w.alloc (.cells #[.int .i64 0, .int .i64 0, .slice none 0 0] 24)).alloc (.cells #[.int .i64 0, .int .i64 L] 28)) (w.heap.size + 1) 0 L (by simp [go_sem]) (by simp [go_sem])
  have HS := Lib.hid hS
  clear hW hS
  go_enter Try.func23, Try.ntmps23
  go_wp2_with fail
  refine (of_any o L (some ⟨w.heap.size + 1, 0, none⟩) 1 [(0, L)] _ HS.out (by simp [maxLen])).mono ?_
  rintro e w2 ⟨⟨A2, c2, rfl, hs2, hl2, hm2, hf2⟩, hb2⟩
  have hB2 := HB.out.below hb2
  have y0 := hB2.cell 0
  have y1 := hB2.cell 1
  have y2 := hB2.cell 2
  have x0 := hB2.frozen 0
  have x1 := hB2.frozen 1
  have x2 := hB2.frozen 2
  simp at y0 y1 y2 x0 x1 x2
  have hlt := hB2.lt
  have H2 := Lib.hid hb2
  have S2 := Lib.hid hs2
  have hF : From (w.heap.size + 1) A2 := hf2.mono (by simp)
  have F2 := Lib.hid hF
  clear hb2 hs2 hf2 hF hB2
  go_wp2
  refine bodyPost_ret (v := .tuple #[.agg #[.int .i64 (ofRO o L [(0, L)]), .int .i64 (ofRP o L [(0, L)]), .slice A2 (ofRL o L [(0, L)]).length c2], .int .i64 (ofErr o L [(0, L)])]) (by simp [results, Try.results23, go_sem, y0, y1, y2]) rfl ⟨⟨A2, c2, rfl, ?_, hl2, hm2, F2.out.mono (by omega)⟩, ?_⟩
  · exact ((S2.out.far F2.out (p := ⟨w.heap.size, 0, none⟩) (by simp) _).far F2.out (p := ⟨w.heap.size, 1, none⟩) (by simp) _).far F2.out (p := ⟨w.heap.size, 2, none⟩) (by simp) _
  · have h9 := below_next HW.out H2.out
    exact ((h9.setCell (by simp) _).setCell (by simp) _).setCell (by simp) _

/-- granule k of granules of length L -/
theorem fix_at (o L k : Int) : atF o L [(0, L)] k = o + k * L ∧ atT o L [(0, L)] k = o + (k + 1) * L := by
  have e1 : k / (([(0, L)] : List Sp).length : Int) = k := by simp
  have e2 : k % (([(0, L)] : List Sp).length : Int) = 0 := by simp [Int.emod_one]
  unfold atF atT
  rw [e1, e2]
  have f0 : fr [((0 : Int), L)] (0 : Int).toNat = 0 := rfl
  have t0 : tt [((0 : Int), L)] (0 : Int).toNat = L := rfl
  rw [f0, t0, Int.add_mul, Int.mul_comm L k]
  omega
theorem fix_span {o L k : Int} (hv : Vd o L [(0, L)]) : (spanE o L [(0, L)] k = if ivB (o + k * L) (o + (k + 1) * L) then 0 else 2) ∧ (ivB (o + k * L) (o + (k + 1) * L) = true → spanF o L [(0, L)] k = o + k * L ∧ spanT o L [(0, L)] k = o + (k + 1) * L) := by
  obtain ⟨e1, e2⟩ := fix_at o L k
  have hlt : o + k * L < o + (k + 1) * L := by have := hv.p1; rw [Int.add_mul]; omega
  have hon : onB o L [(0, L)] k = ivB (o + k * L) (o + (k + 1) * L) := by
    rw [onB, e1, e2]; simp [ivB, hlt]
  have hE : spanE o L [(0, L)] k = if ivB (o + k * L) (o + (k + 1) * L) then 0 else 2 := by rw [spanE, hv.back, if_pos rfl, hon]
  refine ⟨hE, fun hi => ?_⟩
  have := spanE_on (k := k) hv.back (by rw [hon]; exact hi)
  rw [e1, e2] at this
  exact ⟨this.2.1, this.2.2⟩
theorem fix_gap {o L : Int} (hv : Vd o L [(0, L)]) : gapB o L [(0, L)] = true := gapB_t hv.back (fun k hk => by
  have : k = 0 := by simp at hk; omega
  subst this
  simp [nextAt, tt])
end Go.Proofs.Ytnieceplfjmocaa
