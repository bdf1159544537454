/-
  granule.row: the calendar of granules of given lengths, one behind the other; Months and Weeks.
-/
import Derived.Test.YtnieceplfjmocaaMonths
import Derived.Test.YtnieceplfjmocaaOfOk
namespace Go.Proofs.Ytnieceplfjmocaa
open Go.RowKit Go.BigFrame

def psum (ls : List Int) (i : Nat) : Int := (ls.take i).sum
def rowTo (ls : List Int) (k : Nat) : List Sp := (List.range k).map fun i => (psum ls i, psum ls (i + 1))
theorem rowTo_succ (ls : List Int) (k : Nat) : rowTo ls (k + 1) = rowTo ls k ++ [(psum ls k, psum ls (k + 1))] := by simp [rowTo, List.range_succ]
theorem rowTo_len (ls : List Int) (k : Nat) : (rowTo ls k).length = k := by simp [rowTo]
theorem psum_succ {ls : List Int} {k : Nat} (h : k < ls.length) : psum ls (k + 1) = psum ls k + iat ls k := by
  unfold psum
  rw [List.take_succ_eq_append_getElem h, List.sum_append]
  simp [iat, List.getD_eq_getElem?_getD, List.getElem?_eq_getElem h]
theorem psum_zero (ls : List Int) : psum ls 0 = 0 := rfl
theorem fr_row {ls : List Int} {n k : Nat} (h : k < n) : fr (rowTo ls n) k = psum ls k := by
  simp [fr, rowTo, List.getD_eq_getElem?_getD, List.getElem?_map, List.getElem?_range h]
theorem tt_row {ls : List Int} {n k : Nat} (h : k < n) : tt (rowTo ls n) k = psum ls (k + 1) := by
  simp [tt, rowTo, List.getD_eq_getElem?_getD, List.getElem?_map, List.getElem?_range h]

/-- lengths that a row may have -/
structure RowOk (ls : List Int) : Prop where
  n0 : 0 < ls.length
  n5 : ls.length ≤ 5000
  each : ∀ k, k < ls.length → 1 ≤ iat ls k ∧ iat ls k ≤ 1000000
theorem psum_bd {ls : List Int} (h : RowOk ls) : ∀ k, k ≤ ls.length → 0 ≤ psum ls k ∧ psum ls k ≤ 1000000 * k := by
  intro k
  induction k with
  | zero => intro _; simp [psum_zero]
  | succ k ih =>
    intro hk
    have h1 := ih (by omega)
    have h2 := h.each k (by omega)
    rw [psum_succ (by omega)]
    omega
theorem row_asc {ls : List Int} (h : RowOk ls) : ascB (rowTo ls ls.length) = true := by
  rw [ascB_iff, rowTo_len]
  refine ⟨h.n0, fun j hj => ?_⟩
  have h1 := psum_bd h j (by omega)
  have h2 := psum_bd h (j + 1) (by omega)
  have h3 := h.each j hj
  have h4 := psum_succ hj
  have h5 := h.n5
  simp only [ascAt, Bool.and_eq_true, Bool.or_eq_true, decide_eq_true_eq, beq_iff_eq]
  rw [fr_row hj, tt_row hj]
  refine ⟨ivB_iff.2 (by omega), ?_⟩
  rcases Nat.eq_zero_or_pos j with h0 | h0
  · exact .inl h0
  · right
    rw [tt_row (by omega), Nat.sub_add_cancel h0]
    exact Int.le_refl _

/-- what a row's calendar is -/
def RowRes (e : Ending) (w' : World) (B : Nat) (o : Int) (ls : List Int) : Prop :=
  ∃ A c, e = .returned (.agg #[.int .i64 o, .int .i64 (ofP (psum ls ls.length) (rowTo ls ls.length)), .slice A (ofL (psum ls ls.length) (rowTo ls ls.length)).length c]) ∧ SpsR w' A (ofL (psum ls ls.length) (rowTo ls ls.length)) ∧ (ofL (psum ls ls.length) (rowTo ls ls.length)).length ≤ c ∧ c ≤ maxLen ∧ From B A

set_option maxRecDepth 20000 in
set_option maxHeartbeats 4000000 in
theorem row_any (o : Int) (A : Option Addr) (c : Nat) (ls : List Int) (w : World) (h : IntsR w A ls) (hr : RowOk ls) (ho1 : -2199023255552 ≤ o) (ho2 : o ≤ 2199023255552) (hs : psum ls ls.length ≤ 12622780800) :
    Calls Try.prog 65 #[.int .i64 o, .slice A ls.length c] w fun e w' => RowRes e w' w.heap.size o ls ∧ Below w.heap.size w w' := by
  have hn0 := hr.n0
  have hn5 := hr.n5
  obtain ⟨b, o', rfl, hc⟩ := h hn0
  have hW := (Below.refl w.heap.size w).alloc (Nat.le_refl _) (.cells #[.int .i64 0, .int .i64 0, .slice none 0 0] 24)
  have hB := Blk.new w 24 #[.int .i64 0, .int .i64 0, .slice none 0 0]
  have HW := Lib.hid hW
  have HB := Lib.hid hB
  have HC := Lib.hid hc
  have HR := Lib.hid hr
  have HS := Lib.hid hs
  clear h hc hW hB hr hs
  go_enter Try.func65, Try.ntmps65
  go_wp2
  go_loopw [5, 6, 13] (fun v s x wr => ∃ (k : Nat) (A : Option Addr) (c : Nat), k ≤ ls.length ∧ x = .int .i64 k ∧ s = .int .i64 (psum ls k) ∧ v = .slice A (rowTo ls k).length c ∧ OwnSp wr (w.heap.size + 1) A c (rowTo ls k) ∧ Below (w.heap.size + 1) (w.alloc (.cells #[.int .i64 0, .int .i64 0, .slice none 0 0] 24)) wr) (fun _ _ x _ => ls.length - (intOf x).toNat)
  case atStart => exact ⟨0, none, 0, by omega, rfl, rfl, rfl, OwnSp.nil _ _, Below.refl _ _⟩
  case round =>
    obtain ⟨k, A, c, hk, rfl, rfl, rfl, hown, hb⟩ := hrel
    have hlen := rowTo_len ls k
    have hsz := hb.size
    simp at hsz
    have hpb := psum_bd HR.out k hk
    have HO := Lib.hid hown
    have HBw := Lib.hid hb
    clear hown hb
    by_cases hlt : k < ls.length
    · have hx := old_cell (below_next HW.out (HBw.out.mono (by simp))) (HC.out k hlt)
      have hi := HR.out.each k hlt
      have HP := Lib.hid (psum_succ hlt)
      have HT := Lib.hid (rowTo_succ ls k)
      generalize rowTo ls k = L at *
      generalize psum ls k = s at *
      generalize iat ls k = a at *
      have hL5 : L.length ≤ 5000 := by omega
      have HLen := Lib.hid hlen
      clear hlen
      obtain ⟨i1, i2⟩ := hi
      obtain ⟨p1, p2⟩ := hpb
      go_wp2_with (at_builtin; refine wpList_append_span rfl (.tmp 17) (.tmp 23) rfl (w.heap.size + 1) A c L rfl (HO.out.alloc _) wr.heap.size 0 1 s (s + a) rfl ?h0 ?h1 ?hl ?hb ?_)
      case h0 => simp [go_sem]
      case h1 => simp [go_sem]
      case hl => omega
      case hb => simp; omega
      intro A' c' w2 hown2 hgr2
      have hB2 := (HBw.out.alloc (by omega) (.cells #[.int .i64 s, .int .i64 (s + a)] 28)).grown hgr2 (by simp; omega) (fun g e => (HO.out.blk _ e).1)
      have HO2 := Lib.hid hown2
      have HB2 := Lib.hid hB2
      clear hown2 hB2 hgr2 hx
      go_wp2
      go_roundw
      case rel => exact ⟨k + 1, A', c', by omega, by go_num, by rw [HP.out], by rw [HT.out, List.length_append]; rfl, by rw [HT.out, HP.out]; exact HO2.out, HB2.out⟩
      case measure => simp [intOf]; omega
    · have hke : k = ls.length := by omega
      subst hke
      have hp1 : 1 ≤ psum ls ls.length := by
        have h1 := HR.out.each (ls.length - 1) (by omega)
        have h2 := psum_bd HR.out (ls.length - 1) (by omega)
        have h3 := psum_succ (ls := ls) (k := ls.length - 1) (by omega)
        rw [Nat.sub_add_cancel hn0] at h3
        omega
      have hf0 : fr (rowTo ls ls.length) 0 = 0 := by rw [fr_row hn0, psum_zero]
      have htl : tt (rowTo ls ls.length) ((rowTo ls ls.length).length - 1) = psum ls ls.length := by rw [hlen, tt_row (by omega), Nat.sub_add_cancel hn0]
      have hbb := below_next HW.out (HBw.out.mono (B' := (w.alloc (.cells #[.int .i64 0, .int .i64 0, .slice none 0 0] 24)).heap.size) (by simp))
      have hBR : Blk wr w.heap.size 24 #[.int .i64 0, .int .i64 0, .slice none 0 0] := HB.out.below (HBw.out.mono (by simp))
      have HBR := Lib.hid hBR
      have HBB := Lib.hid hbb
      have HOF := Lib.hid (fun w' (hsp : SpsR w' A (rowTo ls ls.length)) => of_ok o (psum ls ls.length) A c (rowTo ls ls.length) w' hsp hp1 HS.out (row_asc HR.out) (by rw [htl, hf0]; omega) (by omega) (lineB_iff.2 (by omega)) (by rw [hf0]; exact halfB_iff.2 (by omega)))
      have HF0 := Lib.hid hf0
      have HLN := Lib.hid hlen
      clear hbb hBR hf0 htl hlen
      go_wp2_with fail
      refine (HOF.out _ HO.out.reads).mono ?_
      rintro e w3 ⟨⟨A3, c3, rfl, hsp, hc1, hc2, hf3⟩, hb3⟩
      have hB3 := HBR.out.below hb3
      have y0 := hB3.cell 0
      have y1 := hB3.cell 1
      have y2 := hB3.cell 2
      have x0 := hB3.frozen 0
      have x1 := hB3.frozen 1
      have x2 := hB3.frozen 2
      simp at y0 y1 y2 x0 x1 x2
      have hlt3 := hB3.lt
      have HB3 := Lib.hid hb3
      have HSP := Lib.hid hsp
      rw [HF0.out]
      clear hb3 hB3 hsp
      go_wp2
      refine bodyPost_ret (v := .agg #[.int .i64 o, .int .i64 (ofP (psum ls ls.length) (rowTo ls ls.length)), .slice A3 (ofL (psum ls ls.length) (rowTo ls ls.length)).length c3]) (by simp [results, Try.results65, go_sem, y0, y1, y2, hlt3]) rfl ⟨⟨A3, c3, rfl, ?_, hc1, hc2, hf3.mono (by omega)⟩, ?_⟩
      · exact (((HSP.out.far hf3 (p := ⟨w.heap.size, 0, none⟩) (by simp; omega) _).far hf3 (p := ⟨w.heap.size, 1, none⟩) (by simp; omega) _).far hf3 (p := ⟨w.heap.size, 2, none⟩) (by simp; omega) _).alloc _
      · have h9 := below_next HBB.out HB3.out
        exact (((h9.setCell (by simp) _).setCell (by simp) _).setCell (by simp) _).alloc (by simp; omega) _
end Go.Proofs.Ytnieceplfjmocaa
