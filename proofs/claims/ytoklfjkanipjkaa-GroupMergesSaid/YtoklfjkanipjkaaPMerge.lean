/-
  GroupMerges, the plain law: lists of granules in order.
-/
import Derived.Test.YtoklfjkanipjkaaPInside
import Derived.Test.YtoklfjkanipjkaaSrtM
namespace Go.Proofs.Ytoklfjkanipjkaa
open Go.RowKit

/-! spans that do not overlap -/
def Dj (x y : Sp) : Prop := x.2 ≤ y.1 ∨ y.2 ≤ x.1
theorem Dj.symm {x y : Sp} (h : Dj x y) : Dj y x := Or.symm h
def Ne1 (l : List Sp) : Prop := ∀ x ∈ l, x.1 < x.2
/-- what is asked of the granules of a window of m -/
def GoodW (m : Int) (l : List Sp) : Prop := l.Pairwise Dj ∧ ∀ x ∈ l, ∀ y ∈ l, x.2 ≤ y.1 + m
theorem GoodW.perm {m : Int} {l l' : List Sp} (h : l.Perm l') (hg : GoodW m l) : GoodW m l' :=
  ⟨(h.pairwise_iff (fun h => Dj.symm h)).1 hg.1, fun x hx y hy => hg.2 x (h.mem_iff.2 hx) y (h.mem_iff.2 hy)⟩
/-- in order, one behind the other -/
def Asc1 (l : List Sp) : Prop := l.Pairwise fun x y => x.2 ≤ y.1
theorem asc_of_sorted {l : List Sp} (hn : Ne1 l) (hs : l.Pairwise fun a b => a.1 ≤ b.1) (hd : l.Pairwise Dj) : Asc1 l := by
  refine (hs.and hd).imp_of_mem fun {x y} hx hy h => ?_
  have h1 := hn x hx
  have h2 := hn y hy
  rcases h.2 with h3 | h3
  · exact h3
  · have := h.1; omega
theorem dj_of_asc {l : List Sp} (h : Asc1 l) : l.Pairwise Dj := h.imp fun h => .inl h
theorem asc_unique {l l' : List Sp} (hp : l.Perm l') (hn : Ne1 l) (h : Asc1 l) (h' : Asc1 l') : l = l' :=
  hp.eq_of_pairwise (fun x y hx hy h1 h2 => by
    have a := hn x hx
    have b := hn y (hp.mem_iff.2 hy)
    omega) h h'
/-- neighbours tell all -/
theorem asc_of_next {l : List Sp} (hn : Ne1 l) (h : ∀ k, k + 1 < l.length → tt l k ≤ fr l (k + 1)) : Asc1 l := by
  refine List.pairwise_iff_getElem.2 fun i j hi hj hij => ?_
  have hk : ∀ k (hk : k < l.length), fr l k < tt l k := fun k hk => by
    have := hn l[k] (List.getElem_mem hk)
    rw [list_fr l hk] at this
    exact this
  rw [list_fr l hi, list_fr l hj]
  show tt l i ≤ fr l j
  induction j with
  | zero => omega
  | succ j ih =>
    by_cases e : i = j
    · subst e; exact h i hj
    · have h1 := ih (by omega) (by omega)
      have h2 := hk j (by omega)
      have h3 := h j hj
      omega
theorem asc_next {l : List Sp} (h : Asc1 l) {k : Nat} (hk : k + 1 < l.length) : tt l k ≤ fr l (k + 1) := by
  have := List.pairwise_iff_getElem.1 h k (k + 1) (by omega) hk (by omega)
  rw [list_fr l (show k < l.length by omega), list_fr l hk] at this
  exact this
theorem asc_first {l : List Sp} (hn : Ne1 l) (h : Asc1 l) {x : Sp} (hx : x ∈ l) : fr l 0 ≤ x.1 ∧ x.2 ≤ tt l (l.length - 1) := by
  obtain ⟨i, hi, rfl⟩ := List.getElem_of_mem hx
  have hk : ∀ k (hk : k < l.length), fr l k < tt l k := fun k hk => by
    have := hn l[k] (List.getElem_mem hk)
    rw [list_fr l hk] at this
    exact this
  have key : ∀ a b, a < b → b < l.length → tt l a ≤ fr l b := fun a b hab hb => by
    have := List.pairwise_iff_getElem.1 h a b (by omega) hb hab
    rw [list_fr l (show a < l.length by omega), list_fr l hb] at this
    exact this
  rw [list_fr l hi]
  refine ⟨?_, ?_⟩
  · show fr l 0 ≤ fr l i
    rcases Nat.eq_zero_or_pos i with e | e
    · subst e; exact Int.le_refl _
    · have := key 0 i e hi; have := hk 0 (by omega); omega
  · show tt l i ≤ tt l (l.length - 1)
    by_cases e : i = l.length - 1
    · rw [e]; exact Int.le_refl _
    · have := key i (l.length - 1) (by omega) (by omega); have := hk (l.length - 1) (by omega); omega
theorem good_of_asc {m : Int} {l : List Sp} (hn : Ne1 l) (h : Asc1 l) (hl : tt l (l.length - 1) ≤ fr l 0 + m) : GoodW m l :=
  ⟨dj_of_asc h, fun x hx y hy => by
    have a := asc_first hn h hx
    have b := asc_first hn h hy
    omega⟩
theorem good_last {m : Int} {l : List Sp} (h0 : 0 < l.length) (h : GoodW m l) : tt l (l.length - 1) ≤ fr l 0 + m := by
  have := h.2 l[l.length - 1] (List.getElem_mem _) l[0] (List.getElem_mem _)
  rw [list_fr l (show l.length - 1 < l.length by omega), list_fr l h0] at this
  exact this
theorem asc_PL {m lo hi : Int} {l : List Sp} (h0 : 0 < l.length) (h5 : l.length ≤ 5000) (hp1 : 1 ≤ m) (hp2 : m ≤ 12622780800) (hn : Ne1 l) (h : Asc1 l) (hg : GoodW m l) (hb : ∀ x ∈ l, lo ≤ x.1 ∧ x.1 ≤ hi) (b1 : -4611686018427387904 ≤ lo) (b2 : hi ≤ 4611686000000000000) : PL m l := by
  have hf := hb l[0] (List.getElem_mem h0)
  rw [list_fr l h0] at hf
  have hf1 : lo ≤ fr l 0 ∧ fr l 0 ≤ hi := hf
  refine PL.of_pw (lo := fr l 0) (hi := fr l 0 + m) h0 h5 hp1 hp2 h (fun x hx => ?_) (by omega) (by omega) (by omega)
  have h1 := asc_first hn h hx
  have h2 := good_last h0 hg
  have h3 := hn x hx
  omega

/-! the granules of a window -/
structure Win (o P M F : Int) (l : List Sp) (w n : Nat) : Prop where
  hv : Vd o P l
  w1 : 1 ≤ w
  hn : n = l.length * w
  hM : M = P * (w : Int)
  m2 : M ≤ 12622780800
  n5 : n ≤ 5000
  f1 : -2199023255552 ≤ F
  f2 : F ≤ o
section
variable {o P M F : Int} {l : List Sp} {w n : Nat}
theorem Win.n0 (h : Win o P M F l w n) : 0 < n := by rw [h.hn]; exact Nat.mul_pos h.hv.n0 h.w1
theorem Win.m1 (h : Win o P M F l w n) : 1 ≤ M ∧ P ≤ M := by
  have := h.hv.p1
  have := h.w1
  rw [h.hM]
  have := Int.mul_le_mul_of_nonneg_left (show (1 : Int) ≤ (w : Int) by omega) (show 0 ≤ P by omega)
  omega
theorem Win.per (h : Win o P M F l w n) (k s : Int) : atF o P l (k + (n : Int) * s) = atF o P l k + M * s ∧ atT o P l (k + (n : Int) * s) = atT o P l k + M * s := by
  have := at_add o P h.hv.n0 k ((w : Int) * s)
  rw [h.hn, h.hM, Int.natCast_mul, Int.mul_assoc, Int.mul_assoc]
  exact this
theorem Win.in (h : Win o P M F l w n) {r : Nat} (hr : r < n) : F ≤ (inn o P l F r).1 ∧ (inn o P l F r).1 < F + M ∧ (inn o P l F r).1 < (inn o P l F r).2 ∧ (inn o P l F r).2 ≤ (inn o P l F r).1 + M := by
  have h1 := (in_lo (s := F) (q := inLo o P l F + r) h.hv).2 (by omega)
  have h2 := (in_lo (s := F) (q := inLo o P l F + r - n) h.hv)
  have h3 := h.per (inLo o P l F + r) (-1)
  have e : inLo o P l F + (r : Int) + (n : Int) * (-1) = inLo o P l F + r - n := by omega
  rw [e] at h3
  have h4 := at_len h.hv (inLo o P l F + r)
  have h5 := h.m1
  simp only [inn]
  omega
theorem Win.nxt (h : Win o P M F l w n) (r s : Nat) : (inn o P l F (r + n * s)).1 = (inn o P l F r).1 + M * s ∧ (inn o P l F (r + n * s)).2 = (inn o P l F r).2 + M * s := by
  have := h.per (inLo o P l F + r) s
  have e : inLo o P l F + (r : Int) + (n : Int) * (s : Int) = inLo o P l F + ((r + n * s : Nat) : Int) := by rw [Int.natCast_add, Int.natCast_mul]; omega
  rw [e] at this
  exact this
theorem Win.rot (h : Win o P M F l w n) : ∃ d : Nat, d < n ∧ ∃ e : Int, inLo o P l F + (d : Int) = (n : Int) * e := by
  have h0 := h.n0
  have h1 := div_bd (a := -inLo o P l F) (b := (n : Int)) (by omega)
  have h2 := Int.emod_add_mul_ediv (-inLo o P l F) (n : Int)
  exact ⟨((-inLo o P l F) % (n : Int)).toNat, by omega, -((-inLo o P l F) / (n : Int)), by rw [Int.mul_neg]; omega⟩
theorem Win.elem (h : Win o P M F l w n) {d : Nat} {e : Int} (hd : inLo o P l F + (d : Int) = (n : Int) * e) {i : Nat} :
    F + (atF o P l i - F) % M = (inn o P l F ((i + d) % n)).1 ∧ F + (atF o P l i - F) % M + atT o P l i - atF o P l i = (inn o P l F ((i + d) % n)).2 := by
  have h0 := h.n0
  have hj := h.in (Nat.mod_lt (i + d) h0)
  have h2 := h.per (i : Int) (e - (((i + d) / n : Nat) : Int))
  have h3 := Nat.div_add_mod (i + d) n
  have e1 : (i : Int) + (n : Int) * (e - (((i + d) / n : Nat) : Int)) = inLo o P l F + (((i + d) % n : Nat) : Int) := by
    have h4 : ((n * ((i + d) / n) : Nat) : Int) + (((i + d) % n : Nat) : Int) = ((i + d : Nat) : Int) := by rw [← Int.natCast_add, h3]
    rw [Int.natCast_mul] at h4
    rw [Int.mul_sub]
    omega
  rw [e1] at h2
  obtain ⟨s, hs⟩ : ∃ s : Int, M * (e - (((i + d) / n : Nat) : Int)) = M * s := ⟨_, rfl⟩
  rw [hs] at h2
  simp only [inn] at hj ⊢
  have h5 : atF o P l i - F = (atF o P l (inLo o P l F + (((i + d) % n : Nat) : Int)) - F) + M * (-s) := by rw [Int.mul_neg]; omega
  have h6 : (atF o P l i - F) % M = atF o P l (inLo o P l F + (((i + d) % n : Nat) : Int)) - F := by
    rw [h5, Int.add_mul_emod_self_left, Int.emod_eq_of_lt (by omega) (by omega)]
  rw [h6]
  omega
theorem rot_perm {α : Type} (f : Nat → α) {n d : Nat} (hd : d < n) : ((List.range n).map fun r => f ((r + d) % n)).Perm ((List.range n).map f) := by
  have e1 : n = (n - d) + d := by omega
  have e2 : (List.range n).map (fun r => f ((r + d) % n)) = (List.range (n - d)).map (fun r => f (d + r)) ++ (List.range d).map f := by
    have : List.range n = List.range (n - d) ++ (List.range d).map (n - d + ·) := by rw [← List.range_add]; congr 1
    rw [this, List.map_append, List.map_map]
    congr 1
    · refine List.map_congr_left fun r hr => ?_
      have := List.mem_range.1 hr
      rw [Nat.mod_eq_of_lt (by omega), Nat.add_comm]
    · refine List.map_congr_left fun r hr => ?_
      have := List.mem_range.1 hr
      simp only [Function.comp]
      congr 1
      have : n - d + r + d = r + n := by omega
      rw [this, Nat.add_mod_right, Nat.mod_eq_of_lt (by omega)]
  have e3 : (List.range n).map f = (List.range d).map f ++ (List.range (n - d)).map (fun r => f (d + r)) := by
    have : List.range n = List.range d ++ (List.range (n - d)).map (d + ·) := by rw [← List.range_add]; congr 1; omega
    rw [this, List.map_append, List.map_map]
    rfl
  rw [e2, e3]
  exact List.perm_append_comm
/-- what the program lays of a calendar -/
def pgF (o P M F : Int) (l : List Sp) (i : Nat) : Sp := (F + (atF o P l i - F) % M, F + (atF o P l i - F) % M + atT o P l i - atF o P l i)
theorem Win.perm (h : Win o P M F l w n) : (gl n (pgF o P M F l)).Perm (gl n (inn o P l F)) := by
  obtain ⟨d, hd, e, he⟩ := h.rot
  have : gl n (pgF o P M F l) = (List.range n).map fun r => inn o P l F ((r + d) % n) := by
    unfold gl
    refine List.map_congr_left fun i _ => ?_
    exact Prod.ext (h.elem he).1 (h.elem he).2
  rw [this]
  exact rot_perm (inn o P l F) hd
theorem Win.bd (h : Win o P M F l w n) {k : Nat} (hk : k < n) : AtOk P l k ∧ o ≤ atF o P l k ∧ atF o P l k < atT o P l k ∧ atT o P l k ≤ o + M := by
  have h5 := h.n5
  have h1 := at_mono' h.hv (show (0 : Int) ≤ (k : Int) by omega)
  rw [(at_zero h.hv).1] at h1
  have h2 := at_lt h.hv (k : Int)
  have h3 := at_mono' h.hv (show (k : Int) + 1 ≤ (0 : Int) + (n : Int) * 1 by omega)
  have h4 := (h.per 0 1).1
  rw [(at_zero h.hv).1] at h4
  exact ⟨AtOk.base h.hv (by omega) (by omega), h1, h2.1, by omega⟩
theorem mem_gl {n : Nat} {f : Nat → Sp} {x : Sp} (h : x ∈ gl n f) : ∃ k, k < n ∧ f k = x := by simpa [gl] using h
theorem gl_mem {n k : Nat} {f : Nat → Sp} (h : k < n) : f k ∈ gl n f := by unfold gl; exact List.mem_map.2 ⟨k, List.mem_range.2 h, rfl⟩
end
end Go.Proofs.Ytoklfjkanipjkaa
