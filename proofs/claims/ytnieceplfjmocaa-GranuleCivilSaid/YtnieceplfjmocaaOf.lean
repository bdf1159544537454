/-
  granule.Of: the valid form of a calendar, or the error.
-/
import Derived.Test.YtnieceplfjmocaaValid
import Derived.Test.YtnieceplfjmocaaOwn
namespace Go.Proofs.Ytnieceplfjmocaa
open Go.RowKit Go.BigFrame

def shiftL (l : List Sp) (d : Int) : List Sp := l.map fun s => (s.1 - d, s.2 - d)
theorem shiftL_len (l : List Sp) (d : Int) : (shiftL l d).length = l.length := by simp [shiftL]
theorem fr_shift {l : List Sp} {d : Int} {k : Nat} (hk : k < l.length) : fr (shiftL l d) k = fr l k - d := by
  simp [fr, shiftL, List.getD_eq_getElem?_getD, List.getElem?_map, List.getElem?_eq_getElem hk]
theorem tt_shift {l : List Sp} {d : Int} {k : Nat} (hk : k < l.length) : tt (shiftL l d) k = tt l k - d := by
  simp [tt, shiftL, List.getD_eq_getElem?_getD, List.getElem?_map, List.getElem?_eq_getElem hk]
theorem shiftL_take_succ {l : List Sp} {d : Int} {k : Nat} (hk : k < l.length) : shiftL (l.take (k + 1)) d = shiftL (l.take k) d ++ [(fr l k - d, tt l k - d)] := by
  simp only [shiftL]
  rw [List.take_succ_eq_append_getElem hk, List.map_append]
  simp [fr, tt, List.getD_eq_getElem?_getD, List.getElem?_eq_getElem hk]

def ofErr (o p : Int) (l : List Sp) : Int :=
  if p < 1 ∨ 12622780800 < p ∨ ascB l = false ∨ p < tt l (l.length - 1) - fr l 0 then 1
  else if 5000 < l.length then 5
  else if lineB o = false ∨ halfB (o + fr l 0) = false then 2 else 0
def ofM (p : Int) (l : List Sp) : Nat := leastN p (shiftL l (fr l 0))
def ofL (p : Int) (l : List Sp) : List Sp := (shiftL l (fr l 0)).take (ofM p l)
def ofP (p : Int) (l : List Sp) : Int := p / ((l.length : Int) / (ofM p l : Int))

/-- the error contract's end -/
def OfErr (e : Ending) (k : Int) : Prop := e = .returned (.tuple #[.agg #[.int .i64 0, .int .i64 0, .slice none 0 0], .int .i64 k])

set_option maxHeartbeats 2000000 in
theorem of_e1 (o p : Int) (A : Option Addr) (c : Nat) (l : List Sp) (w : World) (h : SpsR w A l) (hn : l.length ≤ maxLen) (hp : p < 1) :
    Calls Try.prog 14 #[.int .i64 o, .int .i64 p, .slice A l.length c] w fun e w' => OfErr e 1 ∧ Below w.heap.size w w' := by
  have HN := Lib.hid hn
  have H := Lib.hid h
  unfold maxLen at hn
  have HA : Hid (ascB l = ascB l) := Lib.hid rfl
  have d1 : decide (p < 1) = true := by simp; omega
  clear h
  go_enter Try.func14, Try.ntmps14
  go_wp2_with fail
  refine wp_region_below (by kernel_rfl) (by kernel_rfl) ?_
  intro W hW
  have hR : Blk W w.heap.size 24 #[.int .i64 0, .int .i64 0, .slice none 0 0] := by rw [hW]; exact Blk.new _ _ _
  have hWb : Below w.heap.size w W := by rw [hW]; exact (Below.refl _ _).alloc (Nat.le_refl _) _
  have HS := Lib.hid (fun z : Bw W => (H.out.below hWb).below z.2)
  clear hW
  repeat (go_big_quiet_step ((go_at_call 48; exact quiet_b (asc_at _ (HS.out _) HN.out HA.out))))
  refine wpQuiet_nil ?_
  rintro wq ⟨⟨_, hq⟩, rfl⟩
  have hbq := below_next hWb hq
  have hR2 := hR.below hq
  have g0 := hR2.cell 0
  have g1 := hR2.cell 1
  have g2 := hR2.cell 2
  have f0 := hR2.frozen 0
  have f1 := hR2.frozen 1
  have f2 := hR2.frozen 2
  simp at g0 g1 g2
  go_wp2
  refine bodyPost_ret (v := .tuple #[.agg #[.int .i64 0, .int .i64 0, .slice none 0 0], .int .i64 1]) (by simp [results, Try.results14, go_sem, g0, g1, g2]) rfl ⟨rfl, ?_⟩
  exact ((hbq.setCell (by simp) _).setCell (by simp) _).setCell (by simp) _

set_option maxHeartbeats 2000000 in
theorem of_e2 (o p : Int) (A : Option Addr) (c : Nat) (l : List Sp) (w : World) (h : SpsR w A l) (hn : l.length ≤ maxLen) (hp : 12622780800 < p) :
    Calls Try.prog 14 #[.int .i64 o, .int .i64 p, .slice A l.length c] w fun e w' => OfErr e 1 ∧ Below w.heap.size w w' := by
  have HN := Lib.hid hn
  have H := Lib.hid h
  unfold maxLen at hn
  have HA : Hid (ascB l = ascB l) := Lib.hid rfl
  have d1 : decide (p < 1) = false := by simp; omega
  have d2 : decide (12622780800 < p) = true := by simp; omega
  clear h
  go_enter Try.func14, Try.ntmps14
  go_wp2_with fail
  refine wp_region_below (by kernel_rfl) (by kernel_rfl) ?_
  intro W hW
  have hR : Blk W w.heap.size 24 #[.int .i64 0, .int .i64 0, .slice none 0 0] := by rw [hW]; exact Blk.new _ _ _
  have hWb : Below w.heap.size w W := by rw [hW]; exact (Below.refl _ _).alloc (Nat.le_refl _) _
  have HS := Lib.hid (fun z : Bw W => (H.out.below hWb).below z.2)
  clear hW
  repeat (go_big_quiet_step ((go_at_call 48; exact quiet_b (asc_at _ (HS.out _) HN.out HA.out))))
  refine wpQuiet_nil ?_
  rintro wq ⟨⟨_, hq⟩, rfl⟩
  have hbq := below_next hWb hq
  have hR2 := hR.below hq
  have g0 := hR2.cell 0
  have g1 := hR2.cell 1
  have g2 := hR2.cell 2
  have f0 := hR2.frozen 0
  have f1 := hR2.frozen 1
  have f2 := hR2.frozen 2
  simp at g0 g1 g2
  go_wp2
  refine bodyPost_ret (v := .tuple #[.agg #[.int .i64 0, .int .i64 0, .slice none 0 0], .int .i64 1]) (by simp [results, Try.results14, go_sem, g0, g1, g2]) rfl ⟨rfl, ?_⟩
  exact ((hbq.setCell (by simp) _).setCell (by simp) _).setCell (by simp) _

set_option maxHeartbeats 2000000 in
theorem of_e3 (o p : Int) (A : Option Addr) (c : Nat) (l : List Sp) (w : World) (h : SpsR w A l) (hn : l.length ≤ maxLen) (hp : 1 ≤ p) (hp2 : p ≤ 12622780800) (ha : ascB l = false) :
    Calls Try.prog 14 #[.int .i64 o, .int .i64 p, .slice A l.length c] w fun e w' => OfErr e 1 ∧ Below w.heap.size w w' := by
  have HN := Lib.hid hn
  have H := Lib.hid h
  unfold maxLen at hn
  have HA := Lib.hid ha
  clear ha
  have d1 : decide (p < 1) = false := by simp; omega
  have d2 : decide (12622780800 < p) = false := by simp; omega
  clear h
  go_enter Try.func14, Try.ntmps14
  go_wp2_with fail
  refine wp_region_below (by kernel_rfl) (by kernel_rfl) ?_
  intro W hW
  have hR : Blk W w.heap.size 24 #[.int .i64 0, .int .i64 0, .slice none 0 0] := by rw [hW]; exact Blk.new _ _ _
  have hWb : Below w.heap.size w W := by rw [hW]; exact (Below.refl _ _).alloc (Nat.le_refl _) _
  have HS := Lib.hid (fun z : Bw W => (H.out.below hWb).below z.2)
  clear hW
  repeat (go_big_quiet_step ((go_at_call 48; exact quiet_b (asc_at _ (HS.out _) HN.out HA.out))))
  refine wpQuiet_nil ?_
  rintro wq ⟨⟨_, hq⟩, rfl⟩
  have hbq := below_next hWb hq
  have hR2 := hR.below hq
  have g0 := hR2.cell 0
  have g1 := hR2.cell 1
  have g2 := hR2.cell 2
  have f0 := hR2.frozen 0
  have f1 := hR2.frozen 1
  have f2 := hR2.frozen 2
  simp at g0 g1 g2
  go_wp2
  refine bodyPost_ret (v := .tuple #[.agg #[.int .i64 0, .int .i64 0, .slice none 0 0], .int .i64 1]) (by simp [results, Try.results14, go_sem, g0, g1, g2]) rfl ⟨rfl, ?_⟩
  exact ((hbq.setCell (by simp) _).setCell (by simp) _).setCell (by simp) _

set_option maxHeartbeats 2000000 in
theorem of_e4 (o p : Int) (A : Option Addr) (c : Nat) (l : List Sp) (w : World) (h : SpsR w A l) (hn : l.length ≤ maxLen) (hp : 1 ≤ p) (hp2 : p ≤ 12622780800) (ha : ascB l = true) (ht : p < tt l (l.length - 1) - fr l 0) :
    Calls Try.prog 14 #[.int .i64 o, .int .i64 p, .slice A l.length c] w fun e w' => OfErr e 1 ∧ Below w.heap.size w w' := by
  have HN := Lib.hid hn
  have H := Lib.hid h
  unfold maxLen at hn
  have HA := Lib.hid ha
  clear ha
  have d1 : decide (p < 1) = false := by simp; omega
  have d2 : decide (12622780800 < p) = false := by simp; omega
  have d3 : decide (p < tt l (l.length - 1) - fr l 0) = true := by simp; omega
  have hl0 := asc_ne HA.out
  obtain ⟨b, o', rfl, hc⟩ := h hl0
  have c1 := (hc 0 hl0).1
  have c2 := (hc (l.length - 1) (by omega)).2
  obtain ⟨b1, b2, b3⟩ := asc_iv HA.out hl0
  obtain ⟨b4, b5, b6⟩ := asc_iv HA.out (show l.length - 1 < l.length by omega)
  clear hc
  clear h
  go_enter Try.func14, Try.ntmps14
  go_wp2_with fail
  refine wp_region_below (by kernel_rfl) (by kernel_rfl) ?_
  intro W hW
  have hR : Blk W w.heap.size 24 #[.int .i64 0, .int .i64 0, .slice none 0 0] := by rw [hW]; exact Blk.new _ _ _
  have hWb : Below w.heap.size w W := by rw [hW]; exact (Below.refl _ _).alloc (Nat.le_refl _) _
  have HS := Lib.hid (fun z : Bw W => (H.out.below hWb).below z.2)
  have e4 : ∀ z : Bw W, z.1.cell? ⟨b, o', none⟩ = some (.int .i64 (fr l 0)) := fun z => z.old hWb (by simpa using c1)
  have e5 : ∀ z : Bw W, z.1.cell? ⟨b, o' + (l.length - 1) * 2 + 1, none⟩ = some (.int .i64 (tt l (l.length - 1))) := fun z => z.old hWb c2
  clear hW
  repeat (go_big_quiet_step ((go_at_call 48; exact quiet_b (asc_at _ (HS.out _) HN.out HA.out))))
  refine wpQuiet_nil ?_
  rintro wq ⟨⟨_, hq⟩, rfl⟩
  have hbq := below_next hWb hq
  have g4 : wq.cell? ⟨b, o', none⟩ = some (.int .i64 (fr l 0)) := e4 ⟨wq, hq⟩
  clear e4 e5
  have hR2 := hR.below hq
  have g0 := hR2.cell 0
  have g1 := hR2.cell 1
  have g2 := hR2.cell 2
  have f0 := hR2.frozen 0
  have f1 := hR2.frozen 1
  have f2 := hR2.frozen 2
  simp at g0 g1 g2
  go_wp2
  refine bodyPost_ret (v := .tuple #[.agg #[.int .i64 0, .int .i64 0, .slice none 0 0], .int .i64 1]) (by simp [results, Try.results14, go_sem, g0, g1, g2]) rfl ⟨rfl, ?_⟩
  exact ((hbq.setCell (by simp) _).setCell (by simp) _).setCell (by simp) _

set_option maxHeartbeats 2000000 in
theorem of_e5 (o p : Int) (A : Option Addr) (c : Nat) (l : List Sp) (w : World) (h : SpsR w A l) (hn : l.length ≤ maxLen) (hp : 1 ≤ p) (hp2 : p ≤ 12622780800) (ha : ascB l = true) (ht : tt l (l.length - 1) - fr l 0 ≤ p) (h5 : 5000 < l.length) :
    Calls Try.prog 14 #[.int .i64 o, .int .i64 p, .slice A l.length c] w fun e w' => OfErr e 5 ∧ Below w.heap.size w w' := by
  have HN := Lib.hid hn
  have H := Lib.hid h
  unfold maxLen at hn
  have HA := Lib.hid ha
  clear ha
  have d1 : decide (p < 1) = false := by simp; omega
  have d2 : decide (12622780800 < p) = false := by simp; omega
  have d3 : decide (p < tt l (l.length - 1) - fr l 0) = false := by simp; omega
  have hl0 := asc_ne HA.out
  obtain ⟨b, o', rfl, hc⟩ := h hl0
  have c1 := (hc 0 hl0).1
  have c2 := (hc (l.length - 1) (by omega)).2
  obtain ⟨b1, b2, b3⟩ := asc_iv HA.out hl0
  obtain ⟨b4, b5, b6⟩ := asc_iv HA.out (show l.length - 1 < l.length by omega)
  clear hc
  clear h
  go_enter Try.func14, Try.ntmps14
  go_wp2_with fail
  refine wp_region_below (by kernel_rfl) (by kernel_rfl) ?_
  intro W hW
  have hR : Blk W w.heap.size 24 #[.int .i64 0, .int .i64 0, .slice none 0 0] := by rw [hW]; exact Blk.new _ _ _
  have hWb : Below w.heap.size w W := by rw [hW]; exact (Below.refl _ _).alloc (Nat.le_refl _) _
  have HS := Lib.hid (fun z : Bw W => (H.out.below hWb).below z.2)
  have e4 : ∀ z : Bw W, z.1.cell? ⟨b, o', none⟩ = some (.int .i64 (fr l 0)) := fun z => z.old hWb (by simpa using c1)
  have e5 : ∀ z : Bw W, z.1.cell? ⟨b, o' + (l.length - 1) * 2 + 1, none⟩ = some (.int .i64 (tt l (l.length - 1))) := fun z => z.old hWb c2
  clear hW
  repeat (go_big_quiet_step ((go_at_call 48; exact quiet_b (asc_at _ (HS.out _) HN.out HA.out))))
  refine wpQuiet_nil ?_
  rintro wq ⟨⟨_, hq⟩, rfl⟩
  have hbq := below_next hWb hq
  have g4 : wq.cell? ⟨b, o', none⟩ = some (.int .i64 (fr l 0)) := e4 ⟨wq, hq⟩
  clear e4 e5
  have hR2 := hR.below hq
  have g0 := hR2.cell 0
  have g1 := hR2.cell 1
  have g2 := hR2.cell 2
  have f0 := hR2.frozen 0
  have f1 := hR2.frozen 1
  have f2 := hR2.frozen 2
  simp at g0 g1 g2
  go_wp2
  refine bodyPost_ret (v := .tuple #[.agg #[.int .i64 0, .int .i64 0, .slice none 0 0], .int .i64 5]) (by simp [results, Try.results14, go_sem, g0, g1, g2]) rfl ⟨rfl, ?_⟩
  exact ((hbq.setCell (by simp) _).setCell (by simp) _).setCell (by simp) _

set_option maxHeartbeats 2000000 in
theorem of_e6 (o p : Int) (A : Option Addr) (c : Nat) (l : List Sp) (w : World) (h : SpsR w A l) (hn : l.length ≤ maxLen) (hp : 1 ≤ p) (hp2 : p ≤ 12622780800) (ha : ascB l = true) (ht : tt l (l.length - 1) - fr l 0 ≤ p) (h5 : l.length ≤ 5000) (hl : lineB o = false) :
    Calls Try.prog 14 #[.int .i64 o, .int .i64 p, .slice A l.length c] w fun e w' => OfErr e 2 ∧ Below w.heap.size w w' := by
  have HN := Lib.hid hn
  have H := Lib.hid h
  unfold maxLen at hn
  have HA := Lib.hid ha
  clear ha
  have d1 : decide (p < 1) = false := by simp; omega
  have d2 : decide (12622780800 < p) = false := by simp; omega
  have d3 : decide (p < tt l (l.length - 1) - fr l 0) = false := by simp; omega
  have HL := Lib.hid hl
  clear hl
  have hl0 := asc_ne HA.out
  obtain ⟨b, o', rfl, hc⟩ := h hl0
  have c1 := (hc 0 hl0).1
  have c2 := (hc (l.length - 1) (by omega)).2
  obtain ⟨b1, b2, b3⟩ := asc_iv HA.out hl0
  obtain ⟨b4, b5, b6⟩ := asc_iv HA.out (show l.length - 1 < l.length by omega)
  clear hc
  clear h
  go_enter Try.func14, Try.ntmps14
  go_wp2_with fail
  refine wp_region_below (by kernel_rfl) (by kernel_rfl) ?_
  intro W hW
  have hR : Blk W w.heap.size 24 #[.int .i64 0, .int .i64 0, .slice none 0 0] := by rw [hW]; exact Blk.new _ _ _
  have hWb : Below w.heap.size w W := by rw [hW]; exact (Below.refl _ _).alloc (Nat.le_refl _) _
  have HS := Lib.hid (fun z : Bw W => (H.out.below hWb).below z.2)
  have e4 : ∀ z : Bw W, z.1.cell? ⟨b, o', none⟩ = some (.int .i64 (fr l 0)) := fun z => z.old hWb (by simpa using c1)
  have e5 : ∀ z : Bw W, z.1.cell? ⟨b, o' + (l.length - 1) * 2 + 1, none⟩ = some (.int .i64 (tt l (l.length - 1))) := fun z => z.old hWb c2
  clear hW
  repeat (go_big_quiet_step ((go_at_call 48; exact quiet_b (asc_at _ (HS.out _) HN.out HA.out))))
  refine wpQuiet_nil ?_
  rintro wq ⟨⟨_, hq⟩, rfl⟩
  have hbq := below_next hWb hq
  have g4 : wq.cell? ⟨b, o', none⟩ = some (.int .i64 (fr l 0)) := e4 ⟨wq, hq⟩
  clear e4 e5
  have hR2 := hR.below hq
  have g0 := hR2.cell 0
  have g1 := hR2.cell 1
  have g2 := hR2.cell 2
  have f0 := hR2.frozen 0
  have f1 := hR2.frozen 1
  have f2 := hR2.frozen 2
  simp at g0 g1 g2
  go_wp2_with (go_at_call 50; refine (gline_at _ HL.out).mono ?_; rintro e w' ⟨rfl, rfl⟩)
  refine bodyPost_ret (v := .tuple #[.agg #[.int .i64 0, .int .i64 0, .slice none 0 0], .int .i64 2]) (by simp [results, Try.results14, go_sem, g0, g1, g2]) rfl ⟨rfl, ?_⟩
  exact ((hbq.setCell (by simp) _).setCell (by simp) _).setCell (by simp) _

set_option maxHeartbeats 2000000 in
theorem of_e7 (o p : Int) (A : Option Addr) (c : Nat) (l : List Sp) (w : World) (h : SpsR w A l) (hn : l.length ≤ maxLen) (hp : 1 ≤ p) (hp2 : p ≤ 12622780800) (ha : ascB l = true) (ht : tt l (l.length - 1) - fr l 0 ≤ p) (h5 : l.length ≤ 5000) (hl : lineB o = true) (hh : halfB (o + fr l 0) = false) :
    Calls Try.prog 14 #[.int .i64 o, .int .i64 p, .slice A l.length c] w fun e w' => OfErr e 2 ∧ Below w.heap.size w w' := by
  have HN := Lib.hid hn
  have H := Lib.hid h
  unfold maxLen at hn
  have HA := Lib.hid ha
  clear ha
  have d1 : decide (p < 1) = false := by simp; omega
  have d2 : decide (12622780800 < p) = false := by simp; omega
  have d3 : decide (p < tt l (l.length - 1) - fr l 0) = false := by simp; omega
  obtain ⟨l1, l2⟩ := lineB_iff.1 hl
  have HL := Lib.hid hl
  have HH := Lib.hid hh
  clear hl hh
  have hl0 := asc_ne HA.out
  obtain ⟨b, o', rfl, hc⟩ := h hl0
  have c1 := (hc 0 hl0).1
  have c2 := (hc (l.length - 1) (by omega)).2
  obtain ⟨b1, b2, b3⟩ := asc_iv HA.out hl0
  obtain ⟨b4, b5, b6⟩ := asc_iv HA.out (show l.length - 1 < l.length by omega)
  clear hc
  clear h
  go_enter Try.func14, Try.ntmps14
  go_wp2_with fail
  refine wp_region_below (by kernel_rfl) (by kernel_rfl) ?_
  intro W hW
  have hR : Blk W w.heap.size 24 #[.int .i64 0, .int .i64 0, .slice none 0 0] := by rw [hW]; exact Blk.new _ _ _
  have hWb : Below w.heap.size w W := by rw [hW]; exact (Below.refl _ _).alloc (Nat.le_refl _) _
  have HS := Lib.hid (fun z : Bw W => (H.out.below hWb).below z.2)
  have e4 : ∀ z : Bw W, z.1.cell? ⟨b, o', none⟩ = some (.int .i64 (fr l 0)) := fun z => z.old hWb (by simpa using c1)
  have e5 : ∀ z : Bw W, z.1.cell? ⟨b, o' + (l.length - 1) * 2 + 1, none⟩ = some (.int .i64 (tt l (l.length - 1))) := fun z => z.old hWb c2
  clear hW
  repeat (go_big_quiet_step ((go_at_call 48; exact quiet_b (asc_at _ (HS.out _) HN.out HA.out))))
  refine wpQuiet_nil ?_
  rintro wq ⟨⟨_, hq⟩, rfl⟩
  have hbq := below_next hWb hq
  have g4 : wq.cell? ⟨b, o', none⟩ = some (.int .i64 (fr l 0)) := e4 ⟨wq, hq⟩
  clear e4 e5
  have hR2 := hR.below hq
  have g0 := hR2.cell 0
  have g1 := hR2.cell 1
  have g2 := hR2.cell 2
  have f0 := hR2.frozen 0
  have f1 := hR2.frozen 1
  have f2 := hR2.frozen 2
  simp at g0 g1 g2
  go_wp2_with (first | (go_at_call 50; refine (gline_at _ HL.out).mono ?_; rintro e w' ⟨rfl, rfl⟩) | (go_at_call 47; refine (ghalf_at _ HH.out).mono ?_; rintro e w' ⟨rfl, rfl⟩))
  refine bodyPost_ret (v := .tuple #[.agg #[.int .i64 0, .int .i64 0, .slice none 0 0], .int .i64 2]) (by simp [results, Try.results14, go_sem, g0, g1, g2]) rfl ⟨rfl, ?_⟩
  exact ((hbq.setCell (by simp) _).setCell (by simp) _).setCell (by simp) _

end Go.Proofs.Ytnieceplfjmocaa
