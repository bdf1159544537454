/-
  Networks of bounds, no program here: matrices of distances that are closed in place, and rounds of relaxations with their cycles.
-/
namespace Go.Proofs.Ytegmjohhgedakaa.Fw
def inf : Int := 4398046511104
def pl (a b : Int) : Int := if a = inf ∨ b = inf then inf else a + b
def mn (a b : Int) : Int := if b < a then b else a
abbrev Mx := Nat → Nat → Int
/-- a row in place, by another one -/
def stp (k : Nat) (r rk : Nat → Int) (b : Nat) : Int := mn (r b) (pl (if b ≤ k then r k else mn (r k) (pl (r k) (rk k))) (rk b))
def rnd (k : Nat) (M : Mx) : Mx := fun a => if a ≤ k then stp k (M a) (M k) else stp k (M a) (stp k (M k) (M k))
def Mk (M0 : Mx) : Nat → Mx
  | 0 => M0
  | k + 1 => rnd k (Mk M0 k)
def Cons (n : Nat) (M0 : Mx) : Prop := ∀ i, i < n → 0 ≤ Mk M0 n i i

theorem mn_le_l (a b : Int) : mn a b ≤ a := by unfold mn; split <;> omega
theorem mn_le_r (a b : Int) : mn a b ≤ b := by unfold mn; split <;> omega
theorem mn_or (a b : Int) : mn a b = a ∨ (mn a b = b ∧ b < a) := by unfold mn; split <;> simp_all
theorem pl_fin {a b : Int} (h : a ≠ inf) (g : b ≠ inf) : pl a b = a + b := by unfold pl; rw [if_neg (by rintro (e | e) <;> contradiction)]
theorem pl_inf {a b : Int} (h : a = inf ∨ b = inf) : pl a b = inf := if_pos h
theorem stp_le (k : Nat) (r rk : Nat → Int) (b : Nat) : stp k r rk b ≤ r b := mn_le_l _ _
theorem rnd_le (k : Nat) (M : Mx) (a b : Nat) : rnd k M a b ≤ M a b := by unfold rnd; split <;> exact stp_le _ _ _ _
theorem Mk_le (M0 : Mx) : ∀ (k d a b : Nat), Mk M0 (k + d) a b ≤ Mk M0 k a b := by
  intro k d a b
  induction d with
  | zero => exact Int.le_refl _
  | succ d ih => exact Int.le_trans (rnd_le _ _ _ _) ih

/-! lower ends -/
structure LB (n : Nat) (X M : Mx) : Prop where
  le : ∀ i j, i < n → j < n → M i j ≠ inf → X i j ≤ M i j
  top : ∀ i j, i < n → j < n → M i j ≤ inf
def Cl (n : Nat) (X : Mx) : Prop := ∀ i k j, i < n → k < n → j < n → X i k ≠ inf → X k j ≠ inf → X i j ≤ X i k + X k j

/-- one step keeps what holds of a row -/
theorem stp_lb {n k : Nat} {X : Mx} (hX : Cl n X) {i j : Nat} (hk : k < n) (hi : i < n) {x a c : Int} (hj : j < n)
    (h1 : x ≠ inf → X i j ≤ x) (h1t : x ≤ inf) (h2 : a ≠ inf → X i k ≤ a) (h2t : a ≤ inf) (h3 : c ≠ inf → X k j ≤ c) (h3t : c ≤ inf) :
    (mn x (pl a c) ≠ inf → X i j ≤ mn x (pl a c)) ∧ mn x (pl a c) ≤ inf := by
  refine ⟨fun h => ?_, Int.le_trans (mn_le_l _ _) h1t⟩
  rcases mn_or x (pl a c) with e | ⟨e, e2⟩
  · rw [e] at h ⊢; exact h1 h
  · rw [e]
    by_cases ha : a = inf
    · rw [pl_inf (.inl ha)] at e2; omega
    · by_cases hc : c = inf
      · rw [pl_inf (.inr hc)] at e2; omega
      · rw [pl_fin ha hc]
        have g2 := h2 ha
        have g3 := h3 hc
        have := hX i k j hi hk hj (by omega) (by omega)
        omega
theorem stp_row {n k : Nat} {X : Mx} (hX : Cl n X) (hk : k < n) {i : Nat} (hi : i < n) {r rk : Nat → Int}
    (h1 : ∀ j, j < n → (r j ≠ inf → X i j ≤ r j) ∧ r j ≤ inf) (h2 : ∀ j, j < n → (rk j ≠ inf → X k j ≤ rk j) ∧ rk j ≤ inf) :
    ∀ j, j < n → (stp k r rk j ≠ inf → X i j ≤ stp k r rk j) ∧ stp k r rk j ≤ inf := by
  intro j hj
  unfold stp
  split
  · exact stp_lb hX hk hi hj (h1 j hj).1 (h1 j hj).2 (h1 k hk).1 (h1 k hk).2 (h2 j hj).1 (h2 j hj).2
  · have g := stp_lb hX hk hi hk (h1 k hk).1 (h1 k hk).2 (h1 k hk).1 (h1 k hk).2 (h2 k hk).1 (h2 k hk).2
    exact stp_lb hX hk hi hj (h1 j hj).1 (h1 j hj).2 g.1 g.2 (h2 j hj).1 (h2 j hj).2
theorem rnd_lb {n k : Nat} {X M : Mx} (hX : Cl n X) (hk : k < n) (h : LB n X M) : LB n X (rnd k M) := by
  have h0 : ∀ i, i < n → ∀ j, j < n → (M i j ≠ inf → X i j ≤ M i j) ∧ M i j ≤ inf := fun i hi j hj => ⟨h.le i j hi hj, h.top i j hi hj⟩
  have key : ∀ i, i < n → ∀ j, j < n → (rnd k M i j ≠ inf → X i j ≤ rnd k M i j) ∧ rnd k M i j ≤ inf := by
    intro i hi j hj
    unfold rnd
    split
    · exact stp_row hX hk hi (h0 i hi) (h0 k hk) j hj
    · exact stp_row hX hk hi (h0 i hi) (stp_row hX hk hk (h0 k hk) (h0 k hk)) j hj
  exact ⟨fun i j hi hj => (key i hi j hj).1, fun i j hi hj => (key i hi j hj).2⟩
theorem Mk_lb {n : Nat} {X M0 : Mx} (hX : Cl n X) (h : LB n X M0) : ∀ k, k ≤ n → LB n X (Mk M0 k) := by
  intro k
  induction k with
  | zero => intro _; exact h
  | succ k ih => intro hk; exact rnd_lb hX (by omega) (ih (by omega))
/-- what shows that a network is consistent -/
theorem cons_of {n : Nat} {X M0 : Mx} (hX : Cl n X) (h : LB n X M0) (hd : ∀ i, i < n → M0 i i ≤ 0) (h0 : ∀ i, i < n → 0 ≤ X i i) : Cons n M0 := by
  intro i hi
  have hL := Mk_lb hX h n (Nat.le_refl _)
  have h1 : Mk M0 n i i ≤ 0 := by
    have := Mk_le M0 0 n i i
    rw [Nat.zero_add] at this
    exact Int.le_trans this (hd i hi)
  have h2 := hL.le i i hi hi (by unfold inf; omega)
  have := h0 i hi
  omega

/-! lists of numbers without a number twice -/
theorem filt_len {k : Nat} : ∀ {S : List Nat}, S.Nodup → (S.filter (fun x => x ≠ k)).length + 1 ≥ S.length := by
  intro S
  induction S with
  | nil => intro _; simp
  | cons a S ih =>
    intro h
    have h2 := List.nodup_cons.1 h
    by_cases ha : a = k
    · subst ha
      have hn : S.filter (fun x => x ≠ a) = S := by
        rw [List.filter_eq_self]
        intro x hx
        simp only [ne_eq, decide_not, Bool.not_eq_eq_eq_not, Bool.not_true, decide_eq_false_iff_not]
        rintro rfl
        exact h2.1 hx
      rw [List.filter_cons_of_neg (by simp), hn]
      simp
    · rw [List.filter_cons_of_pos (by simpa using ha)]
      have := ih h2.2
      simp only [List.length_cons]
      omega
theorem nodup_len : ∀ (k : Nat) {S : List Nat}, S.Nodup → (∀ v, v ∈ S → v < k) → S.length ≤ k := by
  intro k
  induction k with
  | zero =>
    intro S _ h
    cases S with
    | nil => simp
    | cons a S => exact absurd (h a (by simp)) (by omega)
  | succ k ih =>
    intro S hS h
    have h1 := filt_len (k := k) hS
    have h2 := ih (S := S.filter (fun x => x ≠ k)) (hS.sublist List.filter_sublist) (fun v hv => by
      rw [List.mem_filter] at hv
      have := h v hv.1
      have h3 : v ≠ k := by simpa using hv.2
      omega)
    omega

/-! the rounds of a consistent network -/
def C : Int := 1073741824
structure Inv (n k : Nat) (M : Mx) : Prop where
  top : ∀ i j, i < n → j < n → M i j ≤ inf
  dia : ∀ i, i < n → M i i = 0
  cl : ∀ i j v, i < n → j < n → v < k → M i v ≠ inf → M v j ≠ inf → M i j ≤ M i v + M v j
  sp : ∀ i j, i < n → j < n → M i j ≠ inf → ∃ S : List Nat, S.Nodup ∧ (∀ v, v ∈ S → v < k ∧ M i v ≠ inf ∧ M v j ≠ inf ∧ M i v + M v j ≤ M i j) ∧
    -(((S.length : Nat) : Int) + 1) * C ≤ M i j ∧ M i j ≤ (((S.length : Nat) : Int) + 1) * C
theorem Inv.bd {n k : Nat} {M : Mx} (h : Inv n k M) (hk : k ≤ n) (hn : n ≤ 24) {i j : Nat} (hi : i < n) (hj : j < n) (hf : M i j ≠ inf) : -(26843545600 : Int) ≤ M i j ∧ M i j ≤ 26843545600 := by
  obtain ⟨S, h1, h2, h3, h4⟩ := h.sp i j hi hj hf
  have := nodup_len k h1 (fun v hv => (h2 v hv).1)
  unfold C at h3 h4
  omega
theorem rnd_eq {k : Nat} {M : Mx} (hd : M k k = 0) {a b : Nat} (hak : M a k ≤ inf) : rnd k M a b = mn (M a b) (pl (M a k) (M k b)) := by
  have e0 : ∀ x : Int, x ≤ inf → mn x (pl x 0) = x := by
    intro x hx
    unfold mn pl inf at *
    split <;> split <;> omega
  have e1 : ∀ x : Int, mn x (pl 0 x) = x := by
    intro x
    unfold mn pl inf at *
    split <;> split <;> omega
  have e2 : ∀ c, stp k (M k) (M k) c = M k c := by
    intro c
    unfold stp
    rw [hd, e0 0 (by unfold inf; omega)]
    split <;> exact e1 _
  have e3 : stp k (M k) (M k) = M k := funext e2
  have e4 : stp k (M a) (M k) b = mn (M a b) (pl (M a k) (M k b)) := by
    unfold stp
    rw [hd, e0 _ hak]
    split <;> rfl
  unfold rnd
  rw [e3]
  split <;> exact e4
theorem Inv.step {n k : Nat} {M : Mx} (h : Inv n k M) (hk : k < n) (hn : n ≤ 24) (hpos : ∀ i, i < n → 0 ≤ rnd k M i i) : Inv n (k + 1) (rnd k M) := by
  have hr : ∀ i j, i < n → j < n → rnd k M i j = mn (M i j) (pl (M i k) (M k j)) := fun i j hi hj => rnd_eq (h.dia k hk) (h.top i k hi hk)
  have bd : ∀ {i j}, i < n → j < n → M i j ≠ inf → -(26843545600 : Int) ≤ M i j ∧ M i j ≤ 26843545600 := fun hi hj hf => h.bd (by omega) hn hi hj hf
  -- what an entry is
  have new : ∀ i j, i < n → j < n → rnd k M i j ≠ inf → (M i j ≠ inf ∧ rnd k M i j = M i j) ∨ (M i k ≠ inf ∧ M k j ≠ inf ∧ rnd k M i j = M i k + M k j ∧ M i k + M k j < M i j) := by
    intro i j hi hj hf
    rw [hr i j hi hj] at hf ⊢
    rcases mn_or (M i j) (pl (M i k) (M k j)) with e | ⟨e, e2⟩
    · rw [e] at hf ⊢; exact .inl ⟨hf, rfl⟩
    · right
      have ht := h.top i j hi hj
      by_cases ha : M i k = inf
      · rw [pl_inf (.inl ha)] at e2; omega
      · by_cases hc : M k j = inf
        · rw [pl_inf (.inr hc)] at e2; omega
        · rw [pl_fin ha hc] at e e2
          exact ⟨ha, hc, by rw [pl_fin ha hc]; exact e, e2⟩
  have le1 : ∀ i j, i < n → j < n → rnd k M i j ≤ M i j := fun i j _ _ => rnd_le _ _ _ _
  have le2 : ∀ i j, i < n → j < n → M i k ≠ inf → M k j ≠ inf → rnd k M i j ≤ M i k + M k j := by
    intro i j hi hj h1 h2
    rw [hr i j hi hj]
    have := mn_le_r (M i j) (pl (M i k) (M k j))
    rw [pl_fin h1 h2] at this ⊢
    exact this
  have fin1 : ∀ i j, i < n → j < n → M i j ≠ inf → rnd k M i j ≠ inf := by
    intro i j hi hj hf
    have := le1 i j hi hj
    have := h.top i j hi hj
    omega
  have fin2 : ∀ i j, i < n → j < n → M i k ≠ inf → M k j ≠ inf → rnd k M i j ≠ inf := by
    intro i j hi hj h1 h2
    have := le2 i j hi hj h1 h2
    have := bd hi hk h1
    have := bd hk hj h2
    unfold inf
    omega
  have rk : ∀ i, i < n → rnd k M i k = M i k := by
    intro i hi
    have h1 := le1 i k hi hk
    by_cases hf : rnd k M i k = inf
    · have := h.top i k hi hk; omega
    · rcases new i k hi hk hf with ⟨_, e⟩ | ⟨_, _, e, _⟩
      · exact e
      · rw [h.dia k hk] at e; omega
  have kr : ∀ j, j < n → rnd k M k j = M k j := by
    intro j hj
    have h1 := le1 k j hk hj
    by_cases hf : rnd k M k j = inf
    · have := h.top k j hk hj; omega
    · rcases new k j hk hj hf with ⟨_, e⟩ | ⟨_, _, e, _⟩
      · exact e
      · rw [h.dia k hk] at e; omega
  -- closed
  have cyc : ∀ v, v < n → M v k ≠ inf → M k v ≠ inf → 0 ≤ M v k + M k v := by
    intro v hv h1 h2
    have := le2 v v hv hv h1 h2
    have := hpos v hv
    omega
  have cl0 : ∀ i j v, i < n → j < n → v < k → M i v ≠ inf → M v j ≠ inf → M i j ≠ inf ∧ M i j ≤ M i v + M v j := by
    intro i j v hi hj hv h1 h2
    have g := h.cl i j v hi hj hv h1 h2
    have := bd hi (by omega) h1
    have := bd (by omega) hj h2
    refine ⟨?_, g⟩
    unfold inf
    omega
  refine ⟨fun i j hi hj => ?_, fun i hi => ?_, fun i j v hi hj hv h1 h2 => ?_, fun i j hi hj hf => ?_⟩
  · exact Int.le_trans (le1 i j hi hj) (h.top i j hi hj)
  · have := le1 i i hi hi
    have := h.dia i hi
    have := hpos i hi
    omega
  · by_cases hvk : v = k
    · subst hvk
      rw [rk i hi] at h1 ⊢
      rw [kr j hj] at h2 ⊢
      exact le2 i j hi hj h1 h2
    · have hv2 : v < k := by omega
      have hvn : v < n := by omega
      rcases new i v hi hvn h1 with ⟨a1, a2⟩ | ⟨a1, a2, a3, _⟩ <;> rcases new v j hvn hj h2 with ⟨b1, b2⟩ | ⟨b1, b2, b3, _⟩
      · rw [a2, b2]
        exact Int.le_trans (le1 i j hi hj) (h.cl i j v hi hj hv2 a1 b1)
      · rw [a2, b3]
        obtain ⟨g1, g2⟩ := cl0 i k v hi hk hv2 a1 b1
        have := le2 i j hi hj g1 b2
        omega
      · rw [a3, b2]
        obtain ⟨g1, g2⟩ := cl0 k j v hk hj hv2 a2 b1
        have := le2 i j hi hj a1 g1
        omega
      · rw [a3, b3]
        have := cyc v hvn b1 a2
        have := le2 i j hi hj a1 b2
        omega
  · rcases new i j hi hj hf with ⟨a1, a2⟩ | ⟨a1, a2, a3, a4⟩
    · obtain ⟨S, s1, s2, s3, s4⟩ := h.sp i j hi hj a1
      refine ⟨S, s1, fun v hv => ?_, by rw [a2]; exact s3, by rw [a2]; exact s4⟩
      obtain ⟨t1, t2, t3, t4⟩ := s2 v hv
      have hvn : v < n := by omega
      refine ⟨by omega, fin1 i v hi hvn t2, fin1 v j hvn hj t3, ?_⟩
      rw [a2]
      have := le1 i v hi hvn
      have := le1 v j hvn hj
      omega
    · obtain ⟨S, s1, s2, s3, s4⟩ := h.sp i k hi hk a1
      obtain ⟨T, t1, t2, t3, t4⟩ := h.sp k j hk hj a2
      refine ⟨S ++ k :: T, ?_, fun v hv => ?_, ?_, ?_⟩
      · rw [List.nodup_append]
        refine ⟨s1, List.nodup_cons.2 ⟨fun hm => ?_, t1⟩, fun a ha b hb => ?_⟩
        · have := (t2 k hm).1; omega
        · rintro rfl
          obtain ⟨u1, u2, u3, u4⟩ := s2 a ha
          rcases List.mem_cons.1 hb with e | hb
          · omega
          · obtain ⟨w1, w2, w3, w4⟩ := t2 a hb
            have g := h.cl i j a hi hj u1 u2 w3
            have := cyc a (by omega) u3 w2
            omega
      · rw [a3]
        rcases List.mem_append.1 hv with hv | hv
        · obtain ⟨u1, u2, u3, u4⟩ := s2 v hv
          have hvn : v < n := by omega
          refine ⟨by omega, fin1 i v hi hvn u2, fin2 v j hvn hj u3 a2, ?_⟩
          have := le1 i v hi hvn
          have := le2 v j hvn hj u3 a2
          omega
        · rcases List.mem_cons.1 hv with e | hv
          · subst e
            rw [rk i hi, kr j hj]
            exact ⟨by omega, a1, a2, Int.le_refl _⟩
          · obtain ⟨u1, u2, u3, u4⟩ := t2 v hv
            have hvn : v < n := by omega
            refine ⟨by omega, fin2 i v hi hvn a1 u2, fin1 v j hvn hj u3, ?_⟩
            have := le1 v j hvn hj
            have := le2 i v hi hvn a1 u2
            omega
      · rw [a3, List.length_append, List.length_cons]
        unfold C at *
        omega
      · rw [a3, List.length_append, List.length_cons]
        unfold C at *
        omega
structure Ini (n : Nat) (M0 : Mx) : Prop where
  dia : ∀ i, i < n → M0 i i ≤ 0
  fin : ∀ i j, i < n → j < n → M0 i j ≠ inf → -C ≤ M0 i j ∧ M0 i j ≤ C
theorem Mk_dia {n : Nat} {M0 : Mx} (h : Ini n M0) (k : Nat) {i : Nat} (hi : i < n) : Mk M0 k i i ≤ 0 := by
  have := Mk_le M0 0 k i i
  rw [Nat.zero_add] at this
  exact Int.le_trans this (h.dia i hi)
theorem inv_upto {n : Nat} {M0 : Mx} (h : Ini n M0) (hn : n ≤ 24) : ∀ k, k ≤ n → (∀ k', k' ≤ k → ∀ i, i < n → 0 ≤ Mk M0 k' i i) → Inv n k (Mk M0 k) := by
  intro k
  induction k with
  | zero =>
    intro _ hp
    refine ⟨fun i j hi hj => ?_, fun i hi => ?_, fun i j v _ _ hv => absurd hv (by omega), fun i j hi hj hf => ⟨[], by simp, fun v hv => absurd hv (by simp), ?_, ?_⟩⟩
    · by_cases hf : M0 i j = inf
      · exact Int.le_of_eq hf
      · have := (h.fin i j hi hj hf).2
        show M0 i j ≤ inf
        unfold inf C at *; omega
    · have := h.dia i hi
      have h1 : 0 ≤ M0 i i := hp 0 (Nat.le_refl _) i hi
      show M0 i i = 0
      omega
    · have := h.fin i j hi hj hf
      show _ ≤ M0 i j
      unfold C at *; simp; omega
    · have := h.fin i j hi hj hf
      show M0 i j ≤ _
      unfold C at *; simp; omega
  | succ k ih =>
    intro hk hp
    exact Inv.step (ih (by omega) (fun k' h' => hp k' (by omega))) (by omega) hn (hp (k + 1) (Nat.le_refl _))
theorem inv_cons {n : Nat} {M0 : Mx} (h : Ini n M0) (hn : n ≤ 24) (hc : Cons n M0) {k : Nat} (hk : k ≤ n) : Inv n k (Mk M0 k) := by
  refine inv_upto h hn k hk fun k' hk' i hi => ?_
  have := Mk_le M0 k' (n - k') i i
  rw [show k' + (n - k') = n by omega] at this
  exact Int.le_trans (hc i hi) this
abbrev Bd := Int × Int × Int
def ed (M : Mx) (e : Bd) : Mx := fun a b => if a = e.1.toNat ∧ b = e.2.1.toNat then mn (M a b) e.2.2 else M a b
def M0 (l : List Bd) : Mx := l.foldl ed (fun a b => if a = b then 0 else inf)
structure EdOk (n : Nat) (e : Bd) : Prop where
  i0 : 0 ≤ e.1
  i1 : e.1 < (n : Int)
  j0 : 0 ≤ e.2.1
  j1 : e.2.1 < (n : Int)
  w0 : -C ≤ e.2.2
  w1 : e.2.2 ≤ C
def LOk (n : Nat) (l : List Bd) : Prop := ∀ e, e ∈ l → EdOk n e

theorem foldl_ind {α β : Type} (f : β → α → β) (P : β → Prop) : ∀ (l : List α) (b : β), P b → (∀ b a, a ∈ l → P b → P (f b a)) → P (l.foldl f b) := by
  intro l
  induction l with
  | nil => intro b hb _; exact hb
  | cons a l ih =>
    intro b hb hs
    exact ih _ (hs b a (by simp) hb) (fun b' a' ha' => hs b' a' (by simp [ha']))
theorem ed_le (M : Mx) (e : Bd) (a b : Nat) : ed M e a b ≤ M a b := by
  unfold ed; split
  · exact mn_le_l _ _
  · exact Int.le_refl _
theorem fold_le (l : List Bd) : ∀ (M : Mx) (a b : Nat), l.foldl ed M a b ≤ M a b := by
  induction l with
  | nil => intro M a b; exact Int.le_refl _
  | cons e l ih => intro M a b; exact Int.le_trans (ih _ a b) (ed_le M e a b)
theorem fold_mem (l : List Bd) : ∀ (M : Mx) (e : Bd), e ∈ l → l.foldl ed M e.1.toNat e.2.1.toNat ≤ e.2.2 := by
  induction l with
  | nil => intro M e h; cases h
  | cons x l ih =>
    intro M e h
    rcases List.mem_cons.1 h with rfl | h
    · refine Int.le_trans (fold_le l _ _ _) ?_
      unfold ed
      rw [if_pos ⟨rfl, rfl⟩]
      exact mn_le_r _ _
    · exact ih _ e h
theorem M0_edge {l : List Bd} {e : Bd} (h : e ∈ l) : M0 l e.1.toNat e.2.1.toNat ≤ e.2.2 := fold_mem l _ e h
theorem M0_ini {n : Nat} {l : List Bd} (h : LOk n l) : Ini n (M0 l) := by
  constructor
  · intro i _
    exact Int.le_trans (fold_le l _ i i) (by simp)
  · have : ∀ i j, M0 l i j ≠ inf → -C ≤ M0 l i j ∧ M0 l i j ≤ C := by
      unfold M0
      refine foldl_ind ed (fun M => ∀ i j, M i j ≠ inf → -C ≤ M i j ∧ M i j ≤ C) l _ ?_ ?_
      · intro i j hf
        show -C ≤ (if i = j then (0:Int) else inf) ∧ (if i = j then (0:Int) else inf) ≤ C
        have hf : (if i = j then (0:Int) else inf) ≠ inf := hf
        split
        · unfold C; omega
        · rename_i g; rw [if_neg g] at hf; exact absurd rfl hf
      · intro M e he hM i j hf
        unfold ed at hf ⊢
        split
        · rename_i g
          rw [if_pos g] at hf
          rcases mn_or (M i j) e.2.2 with e1 | ⟨e1, _⟩
          · rw [e1] at hf ⊢; exact hM i j hf
          · rw [e1]; exact ⟨(h e he).w0, (h e he).w1⟩
        · rename_i g; rw [if_neg g] at hf; exact hM i j hf
    exact fun i j _ _ => this i j
theorem M0_top {n : Nat} {l : List Bd} (h : LOk n l) {i j : Nat} (hi : i < n) (hj : j < n) : M0 l i j ≤ inf := by
  by_cases hf : M0 l i j = inf
  · exact Int.le_of_eq hf
  · have := ((M0_ini h).fin i j hi hj hf).2
    unfold inf C at *; omega
/-- lower ends of a network -/
theorem M0_lb {n : Nat} {l : List Bd} (h : LOk n l) {X : Mx} (hd : ∀ i, i < n → X i i ≤ 0) (hX : ∀ e, e ∈ l → X e.1.toNat e.2.1.toNat ≤ e.2.2) : LB n X (M0 l) := by
  refine ⟨?_, fun i j hi hj => M0_top h hi hj⟩
  unfold M0
  refine foldl_ind ed (fun M => ∀ i j, i < n → j < n → M i j ≠ inf → X i j ≤ M i j) l _ ?_ ?_
  · intro i j hi _ hf
    show X i j ≤ (if i = j then (0:Int) else inf)
    have hf : (if i = j then (0:Int) else inf) ≠ inf := hf
    split
    · rename_i g; subst g; exact hd i hi
    · rename_i g; rw [if_neg g] at hf; exact absurd rfl hf
  · intro M e he hM i j hi hj hf
    unfold ed at hf ⊢
    split
    · rename_i g
      rw [if_pos g] at hf
      rcases mn_or (M i j) e.2.2 with e1 | ⟨e1, _⟩
      · rw [e1] at hf ⊢; exact hM i j hi hj hf
      · rw [e1, g.1, g.2]; exact hX e he
    · rename_i g; rw [if_neg g] at hf; exact hM i j hi hj hf
/-- times that satisfy a network -/
theorem pot_cl (n : Nat) (p : Nat → Int) : Cl n (fun i j => p j - p i) := by
  intro i k j _ _ _ _ _
  show p j - p i ≤ (p k - p i) + (p j - p k)
  omega
theorem pot_lb {n : Nat} {l : List Bd} (h : LOk n l) {p : Nat → Int} (hp : ∀ e, e ∈ l → p e.2.1.toNat ≤ p e.1.toNat + e.2.2) : LB n (fun i j => p j - p i) (M0 l) :=
  M0_lb h (fun i _ => by show p i - p i ≤ 0; omega) (fun e he => by show p _ - p _ ≤ _; have := hp e he; omega)
theorem cons_pot {n : Nat} {l : List Bd} (h : LOk n l) {p : Nat → Int} (hp : ∀ e, e ∈ l → p e.2.1.toNat ≤ p e.1.toNat + e.2.2) : Cons n (M0 l) :=
  cons_of (pot_cl n p) (pot_lb h hp) (M0_ini h).dia (fun i _ => by show 0 ≤ p i - p i; omega)

/-- the tight matrix -/
def Ti (n : Nat) (l : List Bd) : Mx := Mk (M0 l) n
structure Clo (n : Nat) (m : Mx) : Prop where
  top : ∀ i j, i < n → j < n → m i j ≤ inf
  dia : ∀ i, i < n → m i i = 0
  cl : Cl n m
  bd : ∀ i j, i < n → j < n → m i j ≠ inf → -(26843545600 : Int) ≤ m i j ∧ m i j ≤ 26843545600
theorem ti_clo {n : Nat} {l : List Bd} (h : LOk n l) (hn : n ≤ 24) (hc : Cons n (M0 l)) : Clo n (Ti n l) := by
  have hI := inv_cons (M0_ini h) hn hc (Nat.le_refl n)
  exact ⟨hI.top, hI.dia, fun i k j hi hk hj => hI.cl i j k hi hj hk, fun i j hi hj hf => hI.bd (Nat.le_refl _) hn hi hj hf⟩
theorem ti_edge {n : Nat} {l : List Bd} {e : Bd} (he : e ∈ l) : Ti n l e.1.toNat e.2.1.toNat ≤ e.2.2 := by
  have := Mk_le (M0 l) 0 n e.1.toNat e.2.1.toNat
  rw [Nat.zero_add] at this
  exact Int.le_trans this (M0_edge he)
/-- the greatest one -/
theorem ti_max {n : Nat} {l : List Bd} (h : LOk n l) {X : Mx} (hX : Cl n X) (hd : ∀ i, i < n → X i i ≤ 0) (hl : ∀ e, e ∈ l → X e.1.toNat e.2.1.toNat ≤ e.2.2) {i j : Nat} (hi : i < n) (hj : j < n) (hf : Ti n l i j ≠ inf) : X i j ≤ Ti n l i j :=
  (Mk_lb hX (M0_lb h hd hl) n (Nat.le_refl _)).le i j hi hj hf
theorem ti_top {n : Nat} {l : List Bd} (h : LOk n l) {i j : Nat} (hi : i < n) (hj : j < n) : Ti n l i j ≤ inf := by
  have := Mk_le (M0 l) 0 n i j
  rw [Nat.zero_add] at this
  exact Int.le_trans this (M0_top h hi hj)
theorem ti_max' {n : Nat} {l : List Bd} (h : LOk n l) {X : Mx} (hX : Cl n X) (ht : ∀ i j, i < n → j < n → X i j ≤ inf) (hd : ∀ i, i < n → X i i ≤ 0) (hl : ∀ e, e ∈ l → X e.1.toNat e.2.1.toNat ≤ e.2.2) {i j : Nat} (hi : i < n) (hj : j < n) : X i j ≤ Ti n l i j := by
  by_cases hf : Ti n l i j = inf
  · rw [hf]; exact ht i j hi hj
  · exact ti_max h hX hd hl hi hj hf
/-- a closed matrix that obeys a network shows that it is consistent -/
theorem cons_clo {n : Nat} {l : List Bd} (h : LOk n l) {X : Mx} (hX : Clo n X) (hl : ∀ e, e ∈ l → X e.1.toNat e.2.1.toNat ≤ e.2.2) : Cons n (M0 l) :=
  cons_of hX.cl (M0_lb h (fun i hi => Int.le_of_eq (hX.dia i hi)) hl) (M0_ini h).dia (fun i hi => Int.le_of_eq (hX.dia i hi).symm)

/-! walks -/
def sm (W : Nat → Int) : Nat → Int
  | 0 => 0
  | s + 1 => sm W s + W s
theorem sm_ext {V W : Nat → Int} : ∀ n, (∀ s, s < n → V s = W s) → sm V n = sm W n := by
  intro n
  induction n with
  | zero => intro _; rfl
  | succ n ih => intro h; unfold sm; rw [ih fun s hs => h s (by omega), h n (by omega)]
theorem walk_le {n : Nat} {l : List Bd} (h : LOk n l) (hn : n ≤ 24) (hc : Cons n (M0 l)) {z : Nat → Nat} {W : Nat → Int} {q : Nat} (hz : ∀ s, s ≤ q → z s < n)
    (he : ∀ s, s < q → ∃ e, e ∈ l ∧ e.1.toNat = z s ∧ e.2.1.toNat = z (s + 1) ∧ e.2.2 = W s) : ∀ s, s ≤ q → Ti n l (z 0) (z s) ≠ inf ∧ Ti n l (z 0) (z s) ≤ sm W s := by
  have hC := ti_clo h hn hc
  intro s
  induction s with
  | zero =>
    intro _
    rw [hC.dia _ (hz 0 (by omega))]
    unfold inf sm
    omega
  | succ s ih =>
    intro hs
    obtain ⟨g1, g2⟩ := ih (by omega)
    obtain ⟨e, e1, e2, e3, e4⟩ := he s (by omega)
    have t := ti_edge (n := n) e1
    rw [e2, e3, e4] at t
    have hw := (h e e1).w1
    have f1 : Ti n l (z s) (z (s + 1)) ≠ inf := by unfold C at hw; unfold inf; omega
    have c := hC.cl (z 0) (z s) (z (s + 1)) (hz 0 (by omega)) (hz s (by omega)) (hz (s + 1) (by omega)) g1 f1
    have b1 := hC.bd _ _ (hz 0 (by omega)) (hz s (by omega)) g1
    have b2 := hC.bd _ _ (hz s (by omega)) (hz (s + 1) (by omega)) f1
    refine ⟨by unfold inf; omega, ?_⟩
    unfold sm
    omega
/-- a closed walk with a negative sum -/
theorem not_cons {n : Nat} {l : List Bd} (h : LOk n l) (hn : n ≤ 24) {z : Nat → Nat} {W : Nat → Int} {q : Nat} (hz : ∀ s, s ≤ q → z s < n)
    (he : ∀ s, s < q → ∃ e, e ∈ l ∧ e.1.toNat = z s ∧ e.2.1.toNat = z (s + 1) ∧ e.2.2 = W s) (hq : z q = z 0) (hw : sm W q < 0) : ¬ Cons n (M0 l) := by
  intro hc
  have g := (walk_le h hn hc hz he q (Nat.le_refl _)).2
  rw [hq, (ti_clo h hn hc).dia _ (hz 0 (by omega))] at g
  omega
def nb (l : List Bd) (k : Nat) : Bd := l.getD k (0, 0, 0)
theorem nb_mem {l : List Bd} {k : Nat} (h : k < l.length) : nb l k ∈ l := by
  unfold nb
  rw [List.getD_eq_getElem?_getD, List.getElem?_eq_getElem h]
  exact List.getElem_mem h
theorem mem_nb {l : List Bd} {e : Bd} (h : e ∈ l) : ∃ k, k < l.length ∧ nb l k = e := by
  obtain ⟨k, hk, he⟩ := List.getElem_of_mem h
  refine ⟨k, hk, ?_⟩
  unfold nb
  rw [List.getD_eq_getElem?_getD, List.getElem?_eq_getElem hk]
  exact he
def up {α : Type} (f : Nat → α) (j : Nat) (x : α) : Nat → α := fun v => if v = j then x else f v
theorem up_eq {α : Type} (f : Nat → α) (j : Nat) (x : α) : up f j x j = x := if_pos rfl
theorem up_ne {α : Type} (f : Nat → α) {j : Nat} (x : α) {v : Nat} (h : v ≠ j) : up f j x v = f v := if_neg h
/-- rounds of relaxations -/
structure BI (n : Nat) (l : List Bd) (t q0 : Nat) (d b : Nat → Int) (last : Int) (T r : Nat → Nat) (c s : Nat) : Prop where
  pre : ∀ v, v < n → (b v = -1 ∧ r v = 0) ∨ (0 ≤ b v ∧ b v < (l.length : Int) ∧ (nb l (b v).toNat).2.1 = (v : Int) ∧
    (d (nb l (b v).toNat).1.toNat + (nb l (b v).toNat).2.2 < d v ∨ (d (nb l (b v).toNat).1.toNat + (nb l (b v).toNat).2.2 = d v ∧ T (nb l (b v).toNat).1.toNat < T v)) ∧
    r v ≤ r (nb l (b v).toNat).1.toNat + 1 ∧ 1 ≤ r v)
  clk : ∀ v, v < n → T v ≤ c
  rt : ∀ v, v < n → r v ≤ t
  lst0 : last = -1 → ∀ q, q < q0 → q < l.length → d (nb l q).2.1.toNat ≤ d (nb l q).1.toNat + (nb l q).2.2
  lst1 : last = -1 ∨ (0 ≤ last ∧ last < (n : Int) ∧ r last.toNat = t)
  tau : ∀ q, q < l.length → (q < q0 → t ≤ r (nb l q).1.toNat ∨ d (nb l q).2.1.toNat ≤ d (nb l q).1.toNat + (nb l q).2.2) ∧
    (t ≤ r (nb l q).1.toNat + 1 ∨ d (nb l q).2.1.toNat ≤ d (nb l q).1.toNat + (nb l q).2.2)
  lb : ∀ v, v < n → -(s : Int) * C ≤ d v ∧ d v ≤ 0
theorem BI.init {n : Nat} (l : List Bd) : BI n l 1 0 (fun _ => 0) (fun _ => -1) (-1) (fun _ => 0) (fun _ => 0) 0 0 :=
  ⟨fun _ _ => .inl ⟨rfl, rfl⟩, fun _ _ => Nat.le_refl _, fun _ _ => Nat.zero_le _, fun _ q hq => absurd hq (by omega), .inl rfl, fun q _ => ⟨fun h => absurd h (by omega), .inl (by simp)⟩, fun _ _ => by simp⟩
theorem BI.next {n : Nat} {l : List Bd} {t : Nat} {d b : Nat → Int} {last : Int} {T r : Nat → Nat} {c s : Nat} (h : BI n l t l.length d b last T r c s) : BI n l (t + 1) 0 d b (-1) T r c s :=
  ⟨h.pre, h.clk, fun v hv => Nat.le_succ_of_le (h.rt v hv), fun _ q hq => absurd hq (by omega), .inl rfl, fun q hq => ⟨fun h => absurd h (by omega), by
    rcases (h.tau q hq).1 hq with g | g
    · exact .inl (by omega)
    · exact .inr g⟩, h.lb⟩
theorem BI.skip {n : Nat} {l : List Bd} {t q0 : Nat} {d b : Nat → Int} {last : Int} {T r : Nat → Nat} {c s : Nat} (h : BI n l t q0 d b last T r c s)
    (hd : d (nb l q0).2.1.toNat ≤ d (nb l q0).1.toNat + (nb l q0).2.2) : BI n l t (q0 + 1) d b last T r c s := by
  refine ⟨h.pre, h.clk, h.rt, fun hl q hq hq2 => ?_, h.lst1, fun q hq => ⟨fun hq2 => ?_, (h.tau q hq).2⟩, h.lb⟩
  · by_cases e : q = q0
    · subst e; exact hd
    · exact h.lst0 hl q (by omega) hq2
  · by_cases e : q = q0
    · subst e; exact .inr hd
    · exact (h.tau q hq).1 (by omega)
theorem BI.upd {n : Nat} {l : List Bd} (hl : LOk n l) {t q0 : Nat} {d b : Nat → Int} {last : Int} {T r : Nat → Nat} {c s : Nat} (h : BI n l t q0 d b last T r c s) (ht : 1 ≤ t) (hq0 : q0 < l.length)
    (hd : d (nb l q0).1.toNat + (nb l q0).2.2 < d (nb l q0).2.1.toNat) :
    BI n l t (q0 + 1) (up d (nb l q0).2.1.toNat (d (nb l q0).1.toNat + (nb l q0).2.2)) (up b (nb l q0).2.1.toNat (q0 : Int)) (nb l q0).2.1
      (up T (nb l q0).2.1.toNat (c + 1)) (up r (nb l q0).2.1.toNat t) (c + 1) (s + 1) := by
  have he := hl _ (nb_mem hq0)
  have hu := he.i1
  have hu0 := he.i0
  have hv := he.j1
  have hv0 := he.j0
  obtain ⟨u, eu⟩ : ∃ u, u = (nb l q0).1.toNat := ⟨_, rfl⟩
  obtain ⟨v, ev⟩ : ∃ v, v = (nb l q0).2.1.toNat := ⟨_, rfl⟩
  obtain ⟨w, ew⟩ : ∃ w, w = (nb l q0).2.2 := ⟨_, rfl⟩
  have hw := he.w0
  rw [← ew] at hw
  have evv : (nb l q0).2.1 = (v : Int) := by omega
  have hun : u < n := by omega
  have hvn : v < n := by omega
  rw [← eu, ← ew, ← ev] at hd ⊢
  have dle : ∀ x, up d v (d u + w) x ≤ d x := by
    intro x
    by_cases e : x = v
    · subst e; rw [up_eq]; omega
    · rw [up_ne _ _ e]; exact Int.le_refl _
  have rge : ∀ x, x < n → r x ≤ up r v t x := by
    intro x hx
    by_cases e : x = v
    · subst e; rw [up_eq]; exact h.rt _ hx
    · rw [up_ne _ _ e]; exact Nat.le_refl _
  have Tge : ∀ x, x < n → T x ≤ c := h.clk
  have rul : ∀ q, q < l.length → (nb l q).2.1.toNat ≠ v → ∀ x, up d v (d u + w) (nb l q).2.1.toNat ≤ x ↔ d (nb l q).2.1.toNat ≤ x := by
    intro q _ hne x
    rw [up_ne _ _ hne]
  refine ⟨fun x hx => ?_, fun x hx => ?_, fun x hx => ?_, fun hl1 => absurd hl1 (by omega), .inr ⟨he.j0, hv, by rw [← ev, up_eq]⟩, fun q hq => ?_, fun x hx => ?_⟩
  · by_cases e : x = v
    · subst e
      rw [up_eq, up_eq, up_eq, up_eq]
      right
      simp only [Int.toNat_natCast]
      rw [← eu, ← ew]
      refine ⟨by omega, by omega, evv, ?_, ?_, ht⟩
      · by_cases e2 : u = x
        · rw [e2, up_eq]
          left
          rw [e2] at hd
          omega
        · rw [up_ne _ _ e2, up_ne _ _ e2]
          right
          exact ⟨rfl, by have := Tge u hun; omega⟩
      · have g := (h.tau q0 hq0).2
        rw [← eu, ← ew, ← ev] at g
        have := rge u hun
        rcases g with g | g
        · omega
        · omega
    · rw [up_ne _ _ e, up_ne _ _ e, up_ne _ _ e, up_ne _ _ e]
      rcases h.pre x hx with g | ⟨g1, g2, g3, g4, g5, g6⟩
      · exact .inl g
      · right
        have hk : (b x).toNat < l.length := by omega
        have hy := hl _ (nb_mem hk)
        obtain ⟨y, ey⟩ : ∃ y, y = (nb l (b x).toNat).1.toNat := ⟨_, rfl⟩
        have hyn : y < n := by have := hy.i0; have := hy.i1; omega
        rw [← ey] at g4 g5 ⊢
        refine ⟨g1, g2, g3, ?_, Nat.le_trans g5 (by have := rge y hyn; omega), g6⟩
        by_cases e2 : y = v
        · subst e2
          rw [up_eq]
          left
          rcases g4 with g | ⟨g, _⟩ <;> omega
        · rw [up_ne _ _ e2, up_ne _ _ e2]
          exact g4
  · by_cases e : x = v
    · subst e; rw [up_eq]; exact Nat.le_refl _
    · rw [up_ne _ _ e]; have := Tge x hx; omega
  · by_cases e : x = v
    · subst e; rw [up_eq]; exact Nat.le_refl _
    · rw [up_ne _ _ e]; exact h.rt x hx
  · have hy := hl _ (nb_mem hq)
    obtain ⟨y, ey⟩ : ∃ y, y = (nb l q).1.toNat := ⟨_, rfl⟩
    obtain ⟨z, ez⟩ : ∃ z, z = (nb l q).2.1.toNat := ⟨_, rfl⟩
    have hyn : y < n := by have := hy.i0; have := hy.i1; omega
    have g := h.tau q hq
    rw [← ey, ← ez] at g ⊢
    by_cases e2 : y = v
    · rw [e2, up_eq]
      exact ⟨fun _ => .inl (Nat.le_refl _), .inl (by omega)⟩
    · rw [up_ne _ _ e2, up_ne _ _ e2]
      have hz := dle z
      refine ⟨fun hq2 => ?_, g.2.imp id fun g => by omega⟩
      by_cases e3 : q = q0
      · subst e3
        right
        rw [← eu] at ey
        rw [← ev] at ez
        subst ey; subst ez
        rw [up_eq, ← ew]
        exact Int.le_refl _
      · exact (g.1 (by omega)).imp id fun g => by omega
  · have := h.lb x hx
    have hdu := h.lb u hun
    have hdv := h.lb v hvn
    unfold C at *
    by_cases e : x = v
    · subst e; rw [up_eq]; omega
    · rw [up_ne _ _ e]; omega
theorem BI.pot {n : Nat} {l : List Bd} {t : Nat} {d b : Nat → Int} {T r : Nat → Nat} {c s : Nat} (hl : LOk n l) (h : BI n l t l.length d b (-1) T r c s) : Cons n (M0 l) := by
  refine cons_pot hl (p := d) fun e he => ?_
  obtain ⟨k, hk, rfl⟩ := mem_nb he
  exact h.lst0 rfl k hk hk

/-! back along the bounds -/
def pr (l : List Bd) (b : Nat → Int) (v : Nat) : Nat := (nb l (b v).toNat).1.toNat
def it (l : List Bd) (b : Nat → Int) (v : Nat) : Nat → Nat
  | 0 => v
  | s + 1 => pr l b (it l b v s)
theorem it_add (l : List Bd) (b : Nat → Int) (v : Nat) (a : Nat) : ∀ s, it l b v (a + s) = it l b (it l b v a) s := by
  intro s
  induction s with
  | zero => rfl
  | succ s ih => show pr l b (it l b v (a + s)) = _; rw [ih]; rfl
theorem it_same {l : List Bd} {b : Nat → Int} {v i j : Nat} (h : it l b v i = it l b v j) (s : Nat) : it l b v (i + s) = it l b v (j + s) := by rw [it_add, it_add, h]
theorem pigeon {n : Nat} {x : Nat → Nat} (h : ∀ s, s ≤ n → x s < n) : ∃ i j, i < j ∧ j ≤ n ∧ x i = x j := by
  apply Classical.byContradiction
  intro hn
  have hd : ((List.range (n + 1)).map x).Nodup := by
    rw [List.Nodup, List.pairwise_map, List.pairwise_iff_getElem]
    intro i j hi hj hij
    simp only [List.getElem_range]
    intro e
    simp only [List.length_range] at hi hj
    exact hn ⟨i, j, hij, by omega, e⟩
  have := nodup_len n hd (fun v hv => by
    obtain ⟨a, ha, rfl⟩ := List.mem_map.1 hv
    exact h a (by have := List.mem_range.1 ha; omega))
  simp at this
  omega
theorem least {P : Nat → Prop} : ∀ d, P d → ∃ p, p ≤ d ∧ P p ∧ ∀ k, k < p → ¬ P k := by
  intro d
  induction d using Nat.strongRecOn with
  | _ d ih =>
    intro h
    by_cases g : ∃ k, k < d ∧ P k
    · obtain ⟨k, hk, hp⟩ := g
      obtain ⟨p, h1, h2, h3⟩ := ih k hk hp
      exact ⟨p, by omega, h2, h3⟩
    · exact ⟨d, Nat.le_refl _, h, fun k hk hp => g ⟨k, hk, hp⟩⟩
/-- the cycle that going back runs into -/
structure Ring (n : Nat) (l : List Bd) (b : Nat → Int) (y p : Nat) : Prop where
  p0 : 0 < p
  pn : p ≤ n
  lt : ∀ s, it l b y s < n
  ok : ∀ s, 0 ≤ b (it l b y s) ∧ b (it l b y s) < (l.length : Int) ∧ (nb l (b (it l b y s)).toNat).2.1 = (it l b y s : Int)
  back : it l b y p = y
  first : ∀ s, 0 < s → s < p → it l b y s ≠ y
  neg : sm (fun s => (nb l (b (it l b y s)).toNat).2.2) p < 0
theorem Ring.diff {n : Nat} {l : List Bd} {b : Nat → Int} {y p : Nat} (h : Ring n l b y p) {i j : Nat} (hij : i < j) (hj : j < p) : it l b y i ≠ it l b y j := by
  intro e
  have := it_same e (p - j)
  rw [show j + (p - j) = p by omega, h.back] at this
  exact h.first (i + (p - j)) (by omega) (by omega) this
theorem BI.ring {n : Nat} {l : List Bd} {d b : Nat → Int} {last : Int} {T r : Nat → Nat} {c s : Nat} (hl : LOk n l) {q0 : Nat} (h : BI n l n q0 d b last T r c s) (hlast : last ≠ -1) :
    (∀ s, s ≤ n → it l b last.toNat s < n) ∧ (∀ s, s < n → 0 ≤ b (it l b last.toNat s) ∧ b (it l b last.toNat s) < (l.length : Int)) ∧ ∃ p, Ring n l b (it l b last.toNat n) p := by
  obtain ⟨l0, l1, l2⟩ := h.lst1.resolve_left hlast
  obtain ⟨x, hx⟩ : ∃ x, x = last.toNat := ⟨_, rfl⟩
  rw [← hx] at l2 ⊢
  have hxn : x < n := by omega
  have st : ∀ v, v < n → 1 ≤ r v → 0 ≤ b v ∧ b v < (l.length : Int) ∧ pr l b v < n ∧ r v ≤ r (pr l b v) + 1 ∧ (nb l (b v).toNat).2.1 = (v : Int) ∧ (d (pr l b v) + (nb l (b v).toNat).2.2 < d v ∨ (d (pr l b v) + (nb l (b v).toNat).2.2 = d v ∧ T (pr l b v) < T v)) := by
    intro v hv hr
    rcases h.pre v hv with ⟨_, g⟩ | ⟨g1, g2, g3, g4, g5, g6⟩
    · omega
    · have hk : (b v).toNat < l.length := by omega
      have hy := hl _ (nb_mem hk)
      refine ⟨g1, g2, ?_, g5, g3, g4⟩
      unfold pr
      have := hy.i0; have := hy.i1
      omega
  have ch : ∀ s, s ≤ n → it l b x s < n ∧ n ≤ r (it l b x s) + s := by
    intro s
    induction s with
    | zero => intro _; exact ⟨hxn, by show n ≤ r x + 0; omega⟩
    | succ s ih =>
      intro hs
      obtain ⟨g1, g2⟩ := ih (by omega)
      obtain ⟨_, _, g3, g4, _⟩ := st _ g1 (by omega)
      exact ⟨g3, by show n ≤ r (pr l b (it l b x s)) + (s + 1); omega⟩
  obtain ⟨i, j, hij, hjn, e⟩ := pigeon (x := it l b x) (n := n) (fun s hs => (ch s hs).1)
  -- all that is behind i
  have per : ∀ s, it l b x (i + s + (j - i)) = it l b x (i + s) := by
    intro s
    rw [show i + s + (j - i) = j + s by omega]
    exact (it_same e s).symm
  have all : ∀ s, it l b x (i + s) < n ∧ 1 ≤ r (it l b x (i + s)) := by
    intro s
    induction s using Nat.strongRecOn with
    | _ s ih =>
      by_cases hs : i + s < j
      · have := ch (i + s) (by omega)
        exact ⟨this.1, by omega⟩
      · have := per (s - (j - i))
        rw [show i + (s - (j - i)) + (j - i) = i + s by omega] at this
        rw [this]
        exact ih (s - (j - i)) (by omega)
  have all2 : ∀ s, it l b (it l b x n) s < n ∧ 1 ≤ r (it l b (it l b x n) s) := by
    intro s
    rw [← it_add, show n + s = i + (n - i + s) by omega]
    exact all _
  refine ⟨fun s hs => (ch s hs).1, fun s hs => ?_, ?_⟩
  · obtain ⟨g1, g2⟩ := ch s (by omega)
    obtain ⟨g3, g4, _⟩ := st _ g1 (by omega)
    exact ⟨g3, g4⟩
  · have hret : 0 < j - i ∧ it l b (it l b x n) (j - i) = it l b x n := by
      refine ⟨by omega, ?_⟩
      rw [← it_add]
      have := per (n - i)
      rw [show i + (n - i) + (j - i) = n + (j - i) by omega, show i + (n - i) = n by omega] at this
      exact this
    obtain ⟨p, p1, ⟨p2, p3⟩, p4⟩ := least (P := fun p => 0 < p ∧ it l b (it l b x n) p = it l b x n) (j - i) hret
    obtain ⟨y, hy⟩ : ∃ y, y = it l b x n := ⟨_, rfl⟩
    rw [← hy] at all2 p3 p4 ⊢
    refine ⟨p, p2, by omega, fun s => (all2 s).1, fun s => ?_, p3, fun s h1 h2 h3 => p4 s h2 ⟨h1, h3⟩, ?_⟩
    · obtain ⟨g1, g2, _, _, g5, _⟩ := st _ (all2 s).1 (all2 s).2
      exact ⟨g1, g2, g5⟩
    · have key : ∀ s, (s = 0 ∨ d (it l b y s) + sm (fun s => (nb l (b (it l b y s)).toNat).2.2) s < d y ∨ (d (it l b y s) + sm (fun s => (nb l (b (it l b y s)).toNat).2.2) s = d y ∧ T (it l b y s) < T y)) := by
        intro s
        induction s with
        | zero => exact .inl rfl
        | succ s ih =>
          right
          obtain ⟨_, _, _, _, _, g⟩ := st _ (all2 s).1 (all2 s).2
          have e1 : it l b y (s + 1) = pr l b (it l b y s) := rfl
          rw [e1]
          unfold sm
          rcases ih with rfl | ih | ⟨ih1, ih2⟩
          · have e0 : it l b y 0 = y := rfl
            have e2 : sm (fun s => (nb l (b (it l b y s)).toNat).2.2) 0 = 0 := rfl
            rw [e0] at g ⊢
            rw [e2]
            rcases g with g | ⟨g, g'⟩
            · left; omega
            · right; exact ⟨by omega, g'⟩
          · left
            rcases g with g | ⟨g, g'⟩ <;> omega
          · rcases g with g | ⟨g, g'⟩
            · left; omega
            · right; exact ⟨by omega, by omega⟩
      rcases key p with g | g | ⟨g1, g2⟩
      · omega
      · rw [p3] at g; omega
      · rw [p3] at g2; omega
theorem Ring.incons {n : Nat} {l l' : List Bd} {b : Nat → Int} {y p : Nat} (hl : LOk n l') (hn : n ≤ 24) (h : Ring n l b y p) (hm : ∀ s, s < p → nb l (b (it l b y s)).toNat ∈ l') : ¬ Cons n (M0 l') := by
  have hb : ∀ s, it l b y (s + 1) = (nb l (b (it l b y s)).toNat).1.toNat := fun s => rfl
  refine not_cons hl hn (z := fun s => it l b y (p - s)) (W := fun s => (nb l (b (it l b y (p - 1 - s))).toNat).2.2) (q := p) (fun s _ => h.lt _) (fun s hs => ?_) ?_ ?_
  · refine ⟨_, hm (p - 1 - s) (by omega), ?_, ?_, rfl⟩
    · rw [← hb]; congr 1; omega
    · have := (h.ok (p - 1 - s)).2.2
      show _ = it l b y (p - (s + 1))
      rw [this, show p - (s + 1) = p - 1 - s by omega]
      simp
  · show it l b y (p - p) = it l b y (p - 0)
    rw [Nat.sub_self, Nat.sub_zero, h.back]; rfl
  · have rev : ∀ (W : Nat → Int) (q : Nat), sm (fun s => W (q - 1 - s)) q = sm W q := by
      intro W q
      induction q generalizing W with
      | zero => rfl
      | succ q ih =>
        have shift : ∀ (V : Nat → Int) (q : Nat), sm V (q + 1) = V 0 + sm (fun s => V (s + 1)) q := by
          intro V q
          induction q with
          | zero => simp [sm]
          | succ q ih2 => show sm V (q + 1) + V (q + 1) = V 0 + (sm (fun s => V (s + 1)) q + V (q + 1)); rw [ih2]; omega
        rw [shift W q]
        show sm (fun s => W (q + 1 - 1 - s)) q + W (q + 1 - 1 - q) = _
        have := ih (fun s => W (s + 1))
        rw [show q + 1 - 1 - q = 0 by omega, ← this]
        have e : sm (fun s => W (q + 1 - 1 - s)) q = sm (fun s => W (q - 1 - s + 1)) q := sm_ext q fun s hs => by
          show W _ = W _
          congr 1; omega
        rw [e]; omega
    rw [rev (fun s => (nb l (b (it l b y s)).toNat).2.2) p]
    exact h.neg
end Go.Proofs.Ytegmjohhgedakaa.Fw
