/-
  The granules of a calendar that is made of a list; one calendar for one row of granules.
-/
import Derived.Test.YtoklfjkanipjkaaPCustoms
namespace Go.Proofs.Ytoklfjkanipjkaa
open Go.RowKit
theorem step_int {f : Int → Int} {m d : Int} (h : ∀ k, f (k + m) = f k + d) (s k : Int) : f (k + m * s) = f k + d * s := by
  have nat : ∀ (n : Nat) (k : Int), f (k + m * n) = f k + d * n := by
    intro n
    induction n with
    | zero => intro k; simp
    | succ n ih =>
      intro k
      have e : k + m * ((n + 1 : Nat) : Int) = (k + m * n) + m := by rw [Int.natCast_add, Int.mul_add]; simp; omega
      rw [e, h, ih, Int.natCast_add, Int.mul_add]; simp; omega
  cases s with
  | ofNat n => exact nat n k
  | negSucc n =>
    have := nat (n + 1) (k + m * Int.negSucc n)
    have e1 : k + m * Int.negSucc n + m * ((n + 1 : Nat) : Int) = k := by
      rw [Int.negSucc_eq, show ((n + 1 : Nat) : Int) = (n : Int) + 1 from rfl, Int.mul_neg]; omega
    rw [e1] at this
    rw [Int.negSucc_eq, Int.mul_neg, Int.mul_neg]
    rw [Int.negSucc_eq, Int.mul_neg] at this
    rw [show ((n + 1 : Nat) : Int) = (n : Int) + 1 from rfl] at this
    omega

/-- what Of makes of a list that begins at 0 has its granules -/
theorem of_at (o : Int) {p : Int} {l : List Sp} (h0 : 0 < l.length) (hf : fr l 0 = 0) (k : Int) : atF o (ofP p l) (ofL p l) k = atF o p l k ∧ atT o (ofP p l) (ofL p l) k = atT o p l k := by
  have hsh : shiftL l (fr l 0) = l := by rw [hf]; simp [shiftL]
  obtain ⟨m1, m2, m3, _⟩ := leastN_spec (p := p) h0
  have hM : ofM p l = leastN p l := by rw [ofM, hsh]
  obtain ⟨q, d, hq1, hq2, hq3, hq4, hq5, _⟩ := rep_spec m3 m1 m2
  obtain ⟨q', d', hq1', hq2', hq3', hstep⟩ := at_rep o m3 m1 m2
  have hqq : q' = q := by
    rw [hq1] at hq1'
    exact (Nat.eq_of_mul_eq_mul_right m1 hq1').symm
  subst hqq
  have hdd : d' = d := Int.eq_of_mul_eq_mul_left (by omega) (hq3'.symm.trans hq3)
  subst hdd
  have hP : ofP p l = d' := by
    unfold ofP
    have e : ((l.length : Int) / (ofM p l : Int)) = (q' : Int) := by rw [← hq5, hM]; simp
    rw [e, hq4]
  have hL : ofL p l = l.take (leastN p l) := by rw [ofL, hsh, hM]
  have hLl : (l.take (leastN p l)).length = leastN p l := by rw [List.length_take]; omega
  rw [hP, hL]
  obtain ⟨r, hr, hk⟩ := at_parts k (show 0 < (l.take (leastN p l)).length by omega)
  generalize k / ((l.take (leastN p l)).length : Int) = s at hk
  obtain ⟨_, _, e1, e2⟩ := at_mk o d' s hr
  rw [hLl] at hk hr e1 e2
  rw [hk, e1, e2, fr_take hr, tt_take hr]
  have g1 := step_int (f := atF o p l) (fun k => (hstep k).1) s r
  have g2 := step_int (f := atT o p l) (fun k => (hstep k).2) s r
  obtain ⟨_, _, b1, b2⟩ := at_mk o p 0 (show r < l.length by omega)
  have e0 : (l.length : Int) * 0 + (r : Int) = r := by omega
  rw [e0] at b1 b2
  have e3 : (leastN p l : Int) * s + (r : Int) = r + (leastN p l : Int) * s := by omega
  rw [e3, g1, g2, b1, b2]
  omega


/-- what is made of a list has its granules -/
theorem made_at {p : Int} {l : List Sp} (h : PL p l) (k : Int) : atF (fr l 0) (ofP p l) (ofL p l) k = atF 0 p l k ∧ atT (fr l 0) (ofP p l) (ofL p l) k = atT 0 p l k := by
  have h0 := h.n0
  have hlen := shiftL_len l (fr l 0)
  have hf0 := h.f0
  have e1 : ofP p (shiftL l (fr l 0)) = ofP p l := by unfold ofP ofM; rw [hf0, shiftL_zero, hlen]
  have e2 : ofL p (shiftL l (fr l 0)) = ofL p l := by unfold ofL ofM; rw [hf0, shiftL_zero]
  have := of_at (fr l 0) (p := p) (l := shiftL l (fr l 0)) (by omega) hf0 k
  rw [e1, e2] at this
  have hr := div_bd (a := k) (b := (l.length : Int)) (by omega)
  have hk : (k % (l.length : Int)).toNat < l.length := by omega
  rw [this.1, this.2]
  unfold atF atT
  rw [hlen, fr_shift hk, tt_shift hk]
  omega
/-- the granule at a place of the list itself, and at a place a number of periods on -/
theorem gl_at {n : Nat} {F : Nat → Sp} (p q : Int) {r : Nat} (hr : r < n) : atF 0 p (gl n F) ((n : Int) * q + r) = (F r).1 + p * q ∧ atT 0 p (gl n F) ((n : Int) * q + r) = (F r).2 + p * q := by
  obtain ⟨_, _, e1, e2⟩ := at_mk (l := gl n F) 0 p q (r := r) (by rw [gl_len]; exact hr)
  rw [gl_len, fr_gl hr] at e1
  rw [gl_len, tt_gl hr] at e2
  omega
theorem int_parts (k : Int) {n : Nat} (h : 0 < n) : ∃ (q : Int) (r : Nat), r < n ∧ k = (n : Int) * q + r := by
  have hm := div_bd (a := k) (b := (n : Int)) (by omega)
  have := Int.emod_add_mul_ediv k (n : Int)
  exact ⟨k / (n : Int), (k % (n : Int)).toNat, by omega, by omega⟩
/-- one row of granules, one calendar -/
theorem made_eq {p p' : Int} {l l' : List Sp} (h : PL p l) (h' : PL p' l') (hk : ∀ k : Int, atF 0 p l k = atF 0 p' l' k ∧ atT 0 p l k = atT 0 p' l' k) : mkR p l = mkR p' l' := by
  have z : ∀ {p : Int} {l : List Sp}, PL p l → atF 0 p l 0 = fr l 0 := fun {p l} h => by
    have := (at_mk 0 p 0 h.n0).2.2.1
    simpa using this
  have hz : fr l 0 = fr l' 0 := by rw [← z h, ← z h', (hk 0).1]
  unfold mkR
  rw [← hz]
  cases hh : halfB (fr l 0) with
  | false => rfl
  | true =>
    have v := mkR_ok h hh
    have v' := mkR_ok h' (by rw [← hz]; exact hh)
    obtain ⟨_, e2, e3⟩ := same_cal v v' (fun k _ => by rw [(made_at h k).1, (made_at h k).2, (made_at h' k).1, (made_at h' k).2]; exact hk k)
    rw [e2, e3]
theorem made_same {o p p' : Int} {l l' : List Sp} (hv : Vd o p l) (h' : PL p' l') (hk : ∀ k : Int, atF 0 p' l' k = atF o p l k ∧ atT 0 p' l' k = atT o p l k) : mkR p' l' = (o, p, l, 0) := by
  have h0' := h'.n0
  have z : fr l' 0 = o := by
    have e1 := (at_mk 0 p' 0 h'.n0).2.2.1
    have e2 := (hk 0).1
    rw [(at_zero hv).1] at e2
    rw [← e2]
    simpa using e1.symm
  have hh : halfB (fr l' 0) = true := by rw [z, halfB_iff]; exact ⟨hv.o1, hv.o2⟩
  have v' := mkR_ok h' hh
  obtain ⟨e1, e2, e3⟩ := same_cal v' hv (fun k _ => by rw [(made_at h' k).1, (made_at h' k).2]; exact hk k)
  unfold mkR
  rw [if_pos hh, e2, e3, z]
theorem p_ref16_Same (o p : Int) {l : List Sp} (hl : l.length ≤ 5000) : m_ref16_Same std o p o p l l = some true := by
  rw [m_ref16_Same_eq, p_ref12_Same l (by omega)]
  simp

section
variable {o p : Int} {l : List Sp} {first : Int} {m : Nat}
theorem grp_at (hv : Vd o p l) (first : Int) (m : Nat) (j : Int) : atF 0 (bP p l m) (grpL o p l first m) j = atF o p l (first + j * m) ∧ atT 0 (bP p l m) (grpL o p l first m) j = atT o p l (first + (j + 1) * m - 1) := by
  have h0 := hv.n0
  have hg := gcd_pos' (m := m) h0
  have hN : 0 < l.length / Nat.gcd l.length m := Nat.div_pos hg.2 hg.1
  obtain ⟨q, r, hr, rfl⟩ := int_parts j hN
  obtain ⟨e1, e2⟩ := gl_at (F := grpF o p l first m) (bP p l m) q hr
  have hb := blk_mul' (l := l) (m := m)
  have a1 := (at_add o p h0 (first + (r : Int) * m) (((m / Nat.gcd l.length m : Nat) : Int) * q)).1
  have a2 := (at_add o p h0 (first + ((r : Int) + 1) * m - 1) (((m / Nat.gcd l.length m : Nat) : Int) * q)).2
  have c1 : (l.length : Int) * (((m / Nat.gcd l.length m : Nat) : Int) * q) = ((l.length / Nat.gcd l.length m : Nat) : Int) * q * m := by rw [← Int.mul_assoc, ← hb]; simp only [Int.mul_assoc, Int.mul_comm (m : Int)]
  have c2 : p * (((m / Nat.gcd l.length m : Nat) : Int) * q) = bP p l m * q := by unfold bP; rw [Int.mul_assoc]
  rw [c1, c2] at a1 a2
  rw [grpL, e1, e2]
  simp only [grpF]
  rw [← a1, ← a2]
  simp only [Int.add_mul]
  refine ⟨congrArg _ ?_, congrArg _ ?_⟩ <;> omega
theorem pk_at {ks : List Int} (h : PkOk o p l m ks) (j : Int) {r : Nat} (hr : r < ks.length) : atF 0 (bP p l m) (pkL o p l m ks) (j * ks.length + r) = atF o p l (j * m + kk ks r) ∧ atT 0 (bP p l m) (pkL o p l m ks) (j * ks.length + r) = atT o p l (j * m + kk ks r) := by
  have h0 := h.hv.n0
  have hg := gcd_pos' (m := m) h0
  have hN : 0 < l.length / Nat.gcd l.length m := Nat.div_pos hg.2 hg.1
  obtain ⟨q, b, hb, rfl⟩ := int_parts j hN
  have hi : b * ks.length + r < l.length / Nat.gcd l.length m * ks.length := by
    have : (b + 1) * ks.length ≤ l.length / Nat.gcd l.length m * ks.length := Nat.mul_le_mul_right _ hb
    rw [Nat.add_mul, Nat.one_mul] at this
    omega
  obtain ⟨e1, e2⟩ := gl_at (F := pkF o p l m ks) (bP p l m) q hi
  have hb' := blk_mul' (l := l) (m := m)
  have a1 := (at_add o p h0 ((b : Int) * m + kk ks r) (((m / Nat.gcd l.length m : Nat) : Int) * q))
  have c1 : (l.length : Int) * (((m / Nat.gcd l.length m : Nat) : Int) * q) = ((l.length / Nat.gcd l.length m : Nat) : Int) * q * m := by rw [← Int.mul_assoc, ← hb']; simp only [Int.mul_assoc, Int.mul_comm (m : Int)]
  have c2 : p * (((m / Nat.gcd l.length m : Nat) : Int) * q) = bP p l m * q := by unfold bP; rw [Int.mul_assoc]
  rw [c1, c2] at a1
  have c3 : (((l.length / Nat.gcd l.length m : Nat) : Int) * q + (b : Int)) * (ks.length : Int) + (r : Int) = ((l.length / Nat.gcd l.length m * ks.length : Nat) : Int) * q + ((b * ks.length + r : Nat) : Int) := by
    rw [Int.natCast_mul, Int.natCast_add, Int.natCast_mul, Int.add_mul]
    simp only [Int.mul_assoc, Int.mul_comm q]
    omega
  rw [pkL, c3, e1, e2, pkF_at o p l m b hr]
  simp only [pkK]
  rw [← a1.1, ← a1.2]
  simp only [Int.add_mul]
  refine ⟨congrArg _ ?_, congrArg _ ?_⟩ <;> omega
theorem spl_at (hv : Vd o p l) (k : Int) {r : Nat} (hr : r < m) : atF 0 p (splL o p l m) (k * m + r) = atF o p l k + (r : Int) * ((atT o p l k - atF o p l k) / (m : Int)) ∧ atT 0 p (splL o p l m) (k * m + r) = atF o p l k + ((r : Int) + 1) * ((atT o p l k - atF o p l k) / (m : Int)) := by
  have h0 := hv.n0
  obtain ⟨q, b, hb, rfl⟩ := int_parts k h0
  have hi : b * m + r < l.length * m := by
    have : (b + 1) * m ≤ l.length * m := Nat.mul_le_mul_right _ hb
    rw [Nat.add_mul, Nat.one_mul] at this
    omega
  obtain ⟨e1, e2⟩ := gl_at (F := splF o p l m) p q hi
  have a1 := at_add o p h0 (b : Int) q
  have c3 : ((l.length : Int) * q + (b : Int)) * (m : Int) + (r : Int) = ((l.length * m : Nat) : Int) * q + ((b * m + r : Nat) : Int) := by
    rw [Int.natCast_mul, Int.natCast_add, Int.natCast_mul, Int.add_mul]
    simp only [Int.mul_assoc, Int.mul_comm q]
    omega
  rw [splL, c3, e1, e2, splF_at o p l b hr]
  simp only [splK]
  rw [Int.add_comm ((l.length : Int) * q), a1.1, a1.2]
  have c4 : atT o p l b + p * q - (atF o p l b + p * q) = atT o p l b - atF o p l b := by omega
  rw [c4]
  omega
end
end Go.Proofs.Ytoklfjkanipjkaa
