/-
  Plain laws of granules: repetition of a list as a law of all granules; what shifting a calendar makes of it.
-/
import Derived.Test.YtnieceplfjmocaaOrd
import Derived.Test.YtnieceplfjmocaaOfV
namespace Go.Proofs.Ytnieceplfjmocaa

theorem at_add (o p : Int) {l : List Sp} (h : 0 < l.length) (k s : Int) : atF o p l (k + (l.length : Int) * s) = atF o p l k + p * s ∧ atT o p l (k + (l.length : Int) * s) = atT o p l k + p * s := by
  have e1 : (k + (l.length : Int) * s) / (l.length : Int) = k / (l.length : Int) + s := Int.add_mul_ediv_left _ _ (by omega)
  have e2 : (k + (l.length : Int) * s) % (l.length : Int) = k % (l.length : Int) := Int.add_mul_emod_self_left _ _ _
  unfold atF atT
  rw [e1, e2, Int.mul_add]
  omega

theorem at_rep (o : Int) {p : Int} {l : List Sp} {m : Nat} (h : repM p l m = true) (hm : 1 ≤ m) (hl : m ≤ l.length) :
    ∃ (q : Nat) (d : Int), l.length = q * m ∧ 1 ≤ q ∧ p = q * d ∧ ∀ k, atF o p l (k + m) = atF o p l k + d ∧ atT o p l (k + m) = atT o p l k + d := by
  obtain ⟨q, d, hq1, hq2, hq3, hq4, hq5, hq6⟩ := rep_spec h hm hl
  refine ⟨q, d, hq1, hq2, hq3, fun k => ?_⟩
  obtain ⟨r, hr, hk⟩ := at_parts k (show 0 < l.length by omega)
  generalize k / (l.length : Int) = s at hk
  subst hk
  obtain ⟨_, _, e1, e2⟩ := at_mk o p s hr
  rw [e1, e2]
  by_cases hrm : r + m < l.length
  · obtain ⟨_, _, e3, e4⟩ := at_mk o p s hrm
    have h1 := hq6 r hrm
    have e : (l.length : Int) * s + r + m = (l.length : Int) * s + ((r + m : Nat) : Int) := by omega
    rw [e, e3, e4, h1.1, h1.2]
    omega
  · have hr' : r + m - l.length < l.length := by omega
    obtain ⟨_, _, e3, e4⟩ := at_mk o p (s + 1) hr'
    have e : (l.length : Int) * s + r + m = (l.length : Int) * (s + 1) + ((r + m - l.length : Nat) : Int) := by rw [Int.mul_add]; omega
    have e5 : r + m - l.length + (q - 1) * m = r := by rw [Nat.sub_mul, ← hq1]; omega
    have h2 := iter_step (n := l.length) hq6 (q - 1) (r + m - l.length) (by rw [e5]; exact hr)
    rw [e5] at h2
    have e6 : ((q - 1 : Nat) : Int) * d = q * d - d := by rw [Int.natCast_sub hq2, Int.sub_mul]; simp
    rw [e6, ← hq3] at h2
    rw [e, e3, e4, h2.1, h2.2, Int.mul_add]
    omega

theorem rep_at {o p d : Int} {l : List Sp} {m : Nat} (q : Nat) (hm : 1 ≤ m) (hq1 : l.length = q * m) (hq : 1 ≤ q) (h : ∀ k, atF o p l (k + m) = atF o p l k + d ∧ atT o p l (k + m) = atT o p l k + d) : repM p l m = true := by
  have hl : 0 < l.length := by rw [hq1]; exact Nat.mul_pos hq hm
  have hit : ∀ a : Nat, atF o p l ((a * m : Nat) : Int) = atF o p l 0 + a * d := by
    intro a
    induction a with
    | zero => simp
    | succ a ih =>
      have h1 := (h ((a * m : Nat) : Int)).1
      have e : (((a + 1) * m : Nat) : Int) = ((a * m : Nat) : Int) + m := by rw [Nat.succ_mul]; omega
      have e2 : ((a + 1 : Nat) : Int) * d = a * d + d := by rw [Int.natCast_add, Int.add_mul]; simp
      rw [e, h1, ih, e2]; omega
  have h1 := (at_add o p hl 0 1).1
  have h2 := hit q
  rw [← hq1] at h2
  have e0 : (0 : Int) + (l.length : Int) * 1 = (l.length : Int) := by omega
  rw [e0, h2] at h1
  refine rep_mk q d hm hq1 hq (by omega) (fun i hi => ?_)
  obtain ⟨_, _, a1, a2⟩ := at_mk o p 0 (show i < l.length by omega)
  obtain ⟨_, _, b1, b2⟩ := at_mk o p 0 hi
  have h3 := h ((l.length : Int) * 0 + i)
  have e : (l.length : Int) * 0 + i + m = (l.length : Int) * 0 + ((i + m : Nat) : Int) := by omega
  rw [e, a1, a2, b1, b2] at h3
  omega

/-- the list of a calendar whose granule 0 is granule n -/
def shl (o p : Int) (l : List Sp) (n : Int) : List Sp := (List.range l.length).map fun (i : Nat) => (atF o p l (n + i) - atF o p l n, atT o p l (n + i) - atF o p l n)
theorem shl_len (o p : Int) (l : List Sp) (n : Int) : (shl o p l n).length = l.length := by simp [shl]
theorem fr_shl (o p : Int) {l : List Sp} (n : Int) {k : Nat} (h : k < l.length) : fr (shl o p l n) k = atF o p l (n + k) - atF o p l n := by
  simp [fr, shl, List.getD_eq_getElem?_getD, List.getElem?_map, List.getElem?_range h]
theorem tt_shl (o p : Int) {l : List Sp} (n : Int) {k : Nat} (h : k < l.length) : tt (shl o p l n) k = atT o p l (n + k) - atF o p l n := by
  simp [tt, shl, List.getD_eq_getElem?_getD, List.getElem?_map, List.getElem?_range h]

theorem sh_at (o p : Int) {l : List Sp} (h0 : 0 < l.length) (n k : Int) : atF (atF o p l n) p (shl o p l n) k = atF o p l (n + k) ∧ atT (atF o p l n) p (shl o p l n) k = atT o p l (n + k) := by
  have hlen := shl_len o p l n
  obtain ⟨r, hr, hk⟩ := at_parts k (show 0 < (shl o p l n).length by omega)
  generalize k / ((shl o p l n).length : Int) = s at hk
  obtain ⟨_, _, e1, e2⟩ := at_mk (atF o p l n) p s hr
  rw [← hk, fr_shl o p n (by omega)] at e1
  rw [← hk, tt_shl o p n (by omega)] at e2
  obtain ⟨a1, a2⟩ := at_add o p h0 (n + r) s
  have e : n + k = n + r + (l.length : Int) * s := by rw [hk, hlen]; omega
  rw [e1, e2, e, a1, a2]
  omega

theorem at_mono {o p : Int} {l : List Sp} (hv : Vd o p l) (k : Int) (j : Nat) : atF o p l k ≤ atF o p l (k + j) := by
  induction j with
  | zero => simp
  | succ j ih =>
    have := at_lt hv (k + j)
    have e : k + ((j + 1 : Nat) : Int) = k + j + 1 := by omega
    rw [e]; omega

theorem sh_bd {o p : Int} {l : List Sp} (hv : Vd o p l) (n : Int) {j : Nat} (hj : j < l.length) :
    0 ≤ fr (shl o p l n) j ∧ fr (shl o p l n) j < tt (shl o p l n) j ∧ tt (shl o p l n) j ≤ p ∧ (0 < j → tt (shl o p l n) (j - 1) ≤ fr (shl o p l n) j) := by
  rw [fr_shl o p n hj, tt_shl o p n hj]
  have h1 := at_mono hv n j
  have h2 := at_lt hv (n + j)
  have h3 := at_mono hv (n + j + 1) (l.length - (j + 1))
  have e : n + j + 1 + ((l.length - (j + 1) : Nat) : Int) = n + (l.length : Int) * 1 := by omega
  rw [e, (at_add o p hv.n0 n 1).1] at h3
  refine ⟨by omega, by omega, by omega, fun h0 => ?_⟩
  rw [tt_shl o p n (by omega)]
  have h4 := at_lt hv (n + (j - 1 : Nat))
  have e2 : n + ((j - 1 : Nat) : Int) + 1 = n + j := by omega
  rw [e2] at h4
  omega

theorem sh_valid {o p : Int} {l : List Sp} (hv : Vd o p l) {n : Int} (hh : halfB (atF o p l n) = true) : Vd (atF o p l n) p (shl o p l n) := by
  have hlen := shl_len o p l n
  have hn0 := hv.n0
  have h5 := hv.n5
  have hp1 := hv.p1
  have hp2 := hv.p2
  have ho := halfB_iff.1 hh
  have hb := fun j (hj : j < l.length) => sh_bd hv n hj
  refine ⟨by omega, by omega, hp1, hp2, ho.1, ho.2, ?_, ?_, ?_, ?_⟩
  · rw [ascB_iff, hlen]
    refine ⟨hn0, fun j hj => ?_⟩
    obtain ⟨b1, b2, b3, b4⟩ := hb j hj
    simp only [ascAt, Bool.and_eq_true, Bool.or_eq_true, decide_eq_true_eq, beq_iff_eq]
    refine ⟨ivB_iff.2 (by omega), ?_⟩
    rcases Nat.eq_zero_or_pos j with h0 | h0
    · exact .inl h0
    · exact .inr (b4 h0)
  · rw [fr_shl o p n hn0]; simp
  · rw [hlen]; exact (hb (l.length - 1) (by omega)).2.2.1
  · obtain ⟨_, _, _, m4⟩ := leastN_spec (p := p) hn0
    rw [hv.least] at m4
    refine leastN_at (by omega) (by omega) (repM_self (by omega)) (fun j hj hj1 => ?_)
    cases hr : repM p (shl o p l n) j with
    | false => rfl
    | true =>
      obtain ⟨q, d, q1, q2, q3, q4⟩ := at_rep (atF o p l n) hr hj1 (by omega)
      have := rep_at (o := o) (p := p) (d := d) (l := l) (m := j) q hj1 (by omega) q2 (fun k => by
        have := q4 (k - n)
        rw [(sh_at o p hn0 n _).1, (sh_at o p hn0 n _).2, (sh_at o p hn0 n _).1, (sh_at o p hn0 n _).2] at this
        have e1 : n + (k - n + j) = k + j := by omega
        have e2 : n + (k - n) = k := by omega
        rw [e1, e2] at this
        exact this)
      rw [m4 j (by omega) hj1] at this
      cases this

theorem list_fr (l : List Sp) {k : Nat} (h : k < l.length) : l[k] = (fr l k, tt l k) := by
  simp [fr, tt, List.getD_eq_getElem?_getD, List.getElem?_eq_getElem h]
theorem list_ext {l l' : List Sp} (h : l.length = l'.length) (he : ∀ k, k < l.length → fr l k = fr l' k ∧ tt l k = tt l' k) : l = l' := by
  refine List.ext_getElem h (fun k h1 h2 => ?_)
  rw [list_fr l h1, list_fr l' h2, (he k h1).1, (he k h1).2]

theorem sh_back {o p : Int} {l : List Sp} (hv : Vd o p l) (n : Int) : atF (atF o p l n) p (shl o p l n) (-n) = o ∧ shl (atF o p l n) p (shl o p l n) (-n) = l := by
  have hn0 := hv.n0
  have hlen := shl_len o p l n
  have h0 := at_mk o p 0 hn0
  have hz : (l.length : Int) * 0 + ((0 : Nat) : Int) = 0 := by omega
  rw [hz, hv.f0] at h0
  have e0 : n + -n = 0 := by omega
  have e1 : atF (atF o p l n) p (shl o p l n) (-n) = o := by rw [(sh_at o p hn0 n _).1, e0]; omega
  refine ⟨e1, list_ext (by rw [shl_len, hlen]) (fun k hk => ?_)⟩
  rw [shl_len, hlen] at hk
  rw [fr_shl _ p _ (by omega), tt_shl _ p _ (by omega), e1, (sh_at o p hn0 n _).1, (sh_at o p hn0 n _).2]
  obtain ⟨_, _, a1, a2⟩ := at_mk o p 0 hk
  have e2 : n + (-n + (k : Int)) = (l.length : Int) * 0 + k := by omega
  rw [e2, a1, a2]
  omega
end Go.Proofs.Ytnieceplfjmocaa
