/-
  The arguments of the laws, opened: integers, and rules (printed by mkrec.py).
-/
import Derived.Test.YtmnhfaaaaejpaaaGreatArr
import Derived.Deep.Fields
import Derived.Test.YtmnhfaaaaejpaaaGreatProg
import Derived.ProofKit
import Derived.OpenShut
import Derived.Lib.SmallJoins
import Derived.Deep.SlicePairs
namespace Go.Proofs.YtmnhfaaaaejpaaaGreat
open Go.ChangeShapes Go.WideShapes Go.ChangeAt Go.RowKit Go.Joins Go.Deep
set_option maxRecDepth 100000

section
variable {H : Type} {enc : TypeId × Value → H} {w : World} {base b0 : Nat} {spare : Nat → Bool} {held : Bool}

theorem open_i64 {v : Value} {d : DataW H} {p : List MemPlace} (hv : Value.okWide Tryz.prog w .any b0 3 v) (h : DataW.Trod enc Tryz.prog w base spare held 3 v d p) :
    ∃ n, v = .int .i64 n ∧ -9223372036854775808 ≤ n ∧ n ≤ 9223372036854775807 := by
  obtain ⟨n, rfl, _, _, hw⟩ := open_int (P := Tryz.prog) (t := 3) (k := .i64) Tryz.underlying3 hv h
  exact ⟨n, rfl, bounds_i64 hw⟩
theorem cell_i64 {n : Nat} {v : Value} {y : DataW H × List MemPlace} (h : DataW.trod enc Tryz.prog w base spare held n 3 [v] = some y) : ∃ k, v = .int .i64 k ∧ -9223372036854775808 ≤ k ∧ k ≤ 9223372036854775807 := by
  obtain ⟨k, e, _, hw⟩ := DataW.trod_int (P := Tryz.prog) (t := 3) (k := .i64) Tryz.underlying3 h
  simp at e
  exact ⟨k, e, bounds_i64 hw⟩

theorem add_form {a : Addr} {v : Value} (h : w.cell? (a.add 0) = some v) : ∃ b o, a = ⟨b, o, none⟩ := by
  obtain ⟨b, o, s⟩ := a
  have : s = none := by simpa [Addr.add] using World.cell?_spot h
  subst this
  exact ⟨b, o, rfl⟩
theorem add_at (b o j : Nat) : (⟨b, o, none⟩ : Addr).add j = ⟨b, o + j, none⟩ := by unfold Addr.add; by_cases hj : j = 0 <;> simp [hj]

theorem cells_ints {n : Nat} {v : Value} {y : DataW H × List MemPlace} (h : DataW.trod enc Tryz.prog w base spare held n 22 [v] = some y) :
    ∃ A c l, v = .slice A (List.length l) c ∧ IsR w A l ∧ l.length ≤ c ∧ c ≤ maxLen ∧ ∀ k, k < l.length → -9223372036854775808 ≤ l.getD k 0 ∧ l.getD k 0 ≤ 9223372036854775807 := by
  rcases open_slice1 (P := Tryz.prog) (t := 22) (e := 3) Tryz.underlying22 (by kernel_rfl) h with ⟨h0, _⟩ | ⟨a, len, cap, m, n', V, D, Pl, hcs, hb, hl, hm, hmm, hx, hi⟩
  · simp at h0
    exact ⟨none, 0, [], h0, fun h => absurd h (by simp), by simp, by simp, fun k hk => absurd hk (by simp)⟩
  · simp at hcs
    have hlm : len ≤ m := by rw [hmm]; split <;> omega
    have each : ∀ i, i < len → ∃ s : Int, V i = .int .i64 s ∧ -9223372036854775808 ≤ s ∧ s ≤ 9223372036854775807 := by
      intro i hi'
      obtain ⟨h1, h3⟩ := hi i (by omega)
      obtain ⟨x, e1, g1⟩ := cell_i64 h3
      exact ⟨x, e1, g1⟩
    obtain ⟨S, hS⟩ := choose_lt each
    have hlen : ((List.range len).map S).length = len := by simp
    have hget : ∀ k, k < len → ((List.range len).map S).getD k 0 = S k := fun k hk => by
      simp [List.getD_eq_getElem?_getD, List.getElem?_map, List.getElem?_range hk]
    refine ⟨some a, cap, (List.range len).map S, by rw [hlen]; exact hcs, ?_, by rw [hlen]; exact hl, hm, fun k hk => ?_⟩
    · intro h0
      rw [hlen] at h0
      obtain ⟨h1, _⟩ := hi 0 (by omega)
      obtain ⟨b, o, rfl⟩ := add_form h1
      refine ⟨b, o, rfl, fun k hk => ?_⟩
      rw [hlen] at hk
      obtain ⟨h2, _⟩ := hi k (by omega)
      obtain ⟨e1, _⟩ := hS k hk
      rw [add_at] at h2
      rw [hget k hk, h2, e1]
    · rw [hlen] at hk
      rw [hget k hk]
      exact (hS k hk).2
theorem cells_ords {n : Nat} {v : Value} {y : DataW H × List MemPlace} (h : DataW.trod enc Tryz.prog w base spare held n 23 [v] = some y) :
    ∃ A c l, v = .slice A (List.length l) c ∧ SpsR w A l ∧ l.length ≤ c ∧ c ≤ maxLen ∧ ∀ k, k < l.length → (-9223372036854775808 ≤ fr l k ∧ fr l k ≤ 9223372036854775807) ∧ -9223372036854775808 ≤ tt l k ∧ tt l k ≤ 9223372036854775807 := by
  rcases open_slice_pairs (P := Tryz.prog) (t := 23) (e := 36) Tryz.underlying23 Tryz.underlying36 (by kernel_rfl) rfl rfl (by kernel_rfl) (by kernel_rfl) h with ⟨h0, _⟩ | ⟨a, len, cap, m, n', V0, V1, D0, D1, P0, P1, hcs, hb, hl, hm, hmm, hx, hi⟩
  · simp at h0
    exact ⟨none, 0, [], h0, fun h => absurd h (by simp), by simp, by simp, fun k hk => absurd hk (by simp)⟩
  · simp at hcs
    have hlm : len ≤ m := by rw [hmm]; split <;> omega
    have each : ∀ i, i < len → ∃ s : Sp, V0 i = .int .i64 s.1 ∧ V1 i = .int .i64 s.2 ∧ (-9223372036854775808 ≤ s.1 ∧ s.1 ≤ 9223372036854775807) ∧ -9223372036854775808 ≤ s.2 ∧ s.2 ≤ 9223372036854775807 := by
      intro i hi'
      obtain ⟨h1, h2, h3, h4⟩ := hi i (by omega)
      obtain ⟨x, e1, g1⟩ := cell_i64 h3
      obtain ⟨y, e2, g2⟩ := cell_i64 h4
      exact ⟨(x, y), e1, e2, g1, g2⟩
    obtain ⟨S, hS⟩ := choose_lt each
    have hlen : ((List.range len).map S).length = len := by simp
    have hfr : ∀ k, k < len → fr ((List.range len).map S) k = (S k).1 ∧ tt ((List.range len).map S) k = (S k).2 := fun k hk => by
      simp [fr, tt, List.getD_eq_getElem?_getD, List.getElem?_map, List.getElem?_range hk]
    refine ⟨some a, cap, (List.range len).map S, by rw [hlen]; exact hcs, ?_, by rw [hlen]; exact hl, hm, fun k hk => ?_⟩
    · intro h0
      rw [hlen] at h0
      obtain ⟨h1, _⟩ := hi 0 (by omega)
      rw [Nat.zero_mul] at h1
      obtain ⟨b, o, rfl⟩ := add_form h1
      refine ⟨b, o, rfl, fun k hk => ?_⟩
      rw [hlen] at hk
      obtain ⟨h2, h3, _⟩ := hi k (by omega)
      obtain ⟨e1, e2, _⟩ := hS k hk
      rw [add_at] at h2 h3
      rw [(hfr k hk).1, (hfr k hk).2]
      exact ⟨by rw [h2, e1], by rw [show o + k * 2 + 1 = o + (k * 2 + 1) by omega, h3, e2]⟩
    · rw [hlen] at hk
      rw [(hfr k hk).1, (hfr k hk).2]
      exact ⟨(hS k hk).2.2.1, (hS k hk).2.2.2⟩

theorem array14 {α : Type} {cs : Array α} (h : cs.size = 14) : ∃ c0 c1 c2 c3 c4 c5 c6 c7 c8 c9 c10 c11 c12 c13, cs = #[c0, c1, c2, c3, c4, c5, c6, c7, c8, c9, c10, c11, c12, c13] := by
  obtain ⟨l⟩ := cs
  match l, h with
  | [c0, c1, c2, c3, c4, c5, c6, c7, c8, c9, c10, c11, c12, c13], _ => exact ⟨c0, c1, c2, c3, c4, c5, c6, c7, c8, c9, c10, c11, c12, c13, rfl⟩
theorem field_at {P : Program} {fs : Array Field} {t : TypeId} {fuel : Nat} {cs : List Value} {x : DataW H × List MemPlace} (hs : P.underlying t = some (.struct fs)) (hone : oneCellFields P fs = true) (h : DataW.trod enc P w base spare held fuel t cs = some x)
    (i : Nat) (f : Field) (v : Value) (hf : fs[i]? = some f) (hv : cs[i]? = some v) : ∃ y n, DataW.trod enc P w base spare held n f.type [v] = some y := by
  obtain ⟨xs, n, _, _, _, hlen, hx⟩ := DataW.trod_struct hs h
  obtain ⟨ho, hc⟩ := hone_of hone i f hf
  have h1 := hx i f hf
  rw [ho, hc] at h1
  have hi : i < cs.length := (List.getElem?_eq_some_iff.1 hv).1
  have e : (cs.drop i).take 1 = [v] := by
    rw [List.drop_eq_getElem_cons hi]
    simp only [List.take_succ_cons, List.take_zero]
    rw [(List.getElem?_eq_some_iff.1 hv).2]
  rw [e] at h1
  have hl : i < fs.size := (Array.getElem?_eq_some_iff.1 hf).1
  exact ⟨xs[i], n, by rw [h1, List.getElem?_eq_getElem (by omega)]⟩
/-- a rule, by value -/
theorem open_rec {v : Value} {d : DataW H} {p : List MemPlace} (hv : Value.okWide Tryz.prog w .any b0 25 v) (h : DataW.Trod enc Tryz.prog w base spare held 25 v d p) :
    ∃ f N c u Amo cmo lmo Amd cmd lmd Ayd cyd lyd Awk cwk lwk Ady cdy ldy Ah ch lh Am cm lm As cs ls Aps cps lps ws, v = .agg #[.int .i64 f, .int .i64 N, .int .i64 c, .int .i64 u, .slice Amo (List.length lmo) cmo, .slice Amd (List.length lmd) cmd, .slice Ayd (List.length lyd) cyd, .slice Awk (List.length lwk) cwk, .slice Ady (List.length ldy) cdy, .slice Ah (List.length lh) ch, .slice Am (List.length lm) cm, .slice As (List.length ls) cs, .slice Aps (List.length lps) cps, .int .i64 ws] ∧ (IsR w Amo lmo ∧ lmo.length ≤ cmo ∧ cmo ≤ maxLen) ∧ (IsR w Amd lmd ∧ lmd.length ≤ cmd ∧ cmd ≤ maxLen) ∧ (IsR w Ayd lyd ∧ lyd.length ≤ cyd ∧ cyd ≤ maxLen) ∧ (IsR w Awk lwk ∧ lwk.length ≤ cwk ∧ cwk ≤ maxLen) ∧ (SpsR w Ady ldy ∧ ldy.length ≤ cdy ∧ cdy ≤ maxLen) ∧ (IsR w Ah lh ∧ lh.length ≤ ch ∧ ch ≤ maxLen) ∧ (IsR w Am lm ∧ lm.length ≤ cm ∧ cm ≤ maxLen) ∧ (IsR w As ls ∧ ls.length ≤ cs ∧ cs ≤ maxLen) ∧ (IsR w Aps lps ∧ lps.length ≤ cps ∧ cps ≤ maxLen) := by
  obtain ⟨cs, rfl, hsz⟩ := okWide_struct (P := Tryz.prog) (t := 25) Tryz.underlying25 hv
  have hC : Tryz.prog.cellsOf 25 = 14 := by kernel_rfl
  obtain ⟨c0, c1, c2, c3, c4, c5, c6, c7, c8, c9, c10, c11, c12, c13, rfl⟩ := array14 (hsz.trans hC)
  obtain ⟨fuel, hf⟩ := h
  have at' := fun i f v => field_at (cs := [c0, c1, c2, c3, c4, c5, c6, c7, c8, c9, c10, c11, c12, c13]) Tryz.underlying25 (by kernel_rfl) (by simpa [Value.cells] using hf) i f v
  obtain ⟨y0, n0, h0⟩ := at' 0 _ c0 rfl rfl
  obtain ⟨f, rfl, _⟩ := cell_i64 h0
  obtain ⟨y1, n1, h1⟩ := at' 1 _ c1 rfl rfl
  obtain ⟨N, rfl, _⟩ := cell_i64 h1
  obtain ⟨y2, n2, h2⟩ := at' 2 _ c2 rfl rfl
  obtain ⟨c, rfl, _⟩ := cell_i64 h2
  obtain ⟨y3, n3, h3⟩ := at' 3 _ c3 rfl rfl
  obtain ⟨u, rfl, _⟩ := cell_i64 h3
  obtain ⟨y4, n4, h4⟩ := at' 4 _ c4 rfl rfl
  obtain ⟨Amo, cmo, lmo, rfl, rmo, gmo, kmo, _⟩ := cells_ints h4
  obtain ⟨y5, n5, h5⟩ := at' 5 _ c5 rfl rfl
  obtain ⟨Amd, cmd, lmd, rfl, rmd, gmd, kmd, _⟩ := cells_ints h5
  obtain ⟨y6, n6, h6⟩ := at' 6 _ c6 rfl rfl
  obtain ⟨Ayd, cyd, lyd, rfl, ryd, gyd, kyd, _⟩ := cells_ints h6
  obtain ⟨y7, n7, h7⟩ := at' 7 _ c7 rfl rfl
  obtain ⟨Awk, cwk, lwk, rfl, rwk, gwk, kwk, _⟩ := cells_ints h7
  obtain ⟨y8, n8, h8⟩ := at' 8 _ c8 rfl rfl
  obtain ⟨Ady, cdy, ldy, rfl, rdy, gdy, kdy, _⟩ := cells_ords h8
  obtain ⟨y9, n9, h9⟩ := at' 9 _ c9 rfl rfl
  obtain ⟨Ah, ch, lh, rfl, rh, gh, kh, _⟩ := cells_ints h9
  obtain ⟨y10, n10, h10⟩ := at' 10 _ c10 rfl rfl
  obtain ⟨Am, cm, lm, rfl, rm, gm, km, _⟩ := cells_ints h10
  obtain ⟨y11, n11, h11⟩ := at' 11 _ c11 rfl rfl
  obtain ⟨As, cs, ls, rfl, rs, gs, ks, _⟩ := cells_ints h11
  obtain ⟨y12, n12, h12⟩ := at' 12 _ c12 rfl rfl
  obtain ⟨Aps, cps, lps, rfl, rps, gps, kps, _⟩ := cells_ints h12
  obtain ⟨y13, n13, h13⟩ := at' 13 _ c13 rfl rfl
  obtain ⟨ws, rfl, _⟩ := cell_i64 h13
  exact ⟨f, N, c, u, Amo, cmo, lmo, Amd, cmd, lmd, Ayd, cyd, lyd, Awk, cwk, lwk, Ady, cdy, ldy, Ah, ch, lh, Am, cm, lm, As, cs, ls, Aps, cps, lps, ws, rfl, ⟨rmo, gmo, kmo⟩, ⟨rmd, gmd, kmd⟩, ⟨ryd, gyd, kyd⟩, ⟨rwk, gwk, kwk⟩, ⟨rdy, gdy, kdy⟩, ⟨rh, gh, kh⟩, ⟨rm, gm, km⟩, ⟨rs, gs, ks⟩, ⟨rps, gps, kps⟩⟩
end
theorem own : ownKnob Tryz.prog.godebug = none := by kernel_rfl
theorem laidOut : laidOutB Tryz.prog = true := by kernel_rfl
end Go.Proofs.YtmnhfaaaaejpaaaGreat
