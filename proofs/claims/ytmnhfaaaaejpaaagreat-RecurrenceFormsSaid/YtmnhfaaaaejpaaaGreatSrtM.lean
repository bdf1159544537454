/-
  slices.SortFunc of spans by where they begin, slices.Sort of integers: models, and what they say. No program here.
-/
import Derived.Test.YtmnhfaaaaejpaaaGreatManM
import Derived.Sort.AssemblyPlain
import Derived.Lib.BitFns
namespace Go.Proofs.YtmnhfaaaaejpaaaGreat
open Go.RowKit

/-- spans whose beginnings can be subtracted -/
abbrev BSp := { x : Int × Int // -4611686018427387904 ≤ x.1 ∧ x.1 ≤ 4611686018427387903 }
instance : Inhabited BSp := ⟨⟨(0, 0), by decide⟩⟩
def ltB (x y : BSp) : Bool := decide (x.1.1 - y.1.1 < 0)
theorem swoB : Sort.SWO ltB where
  irrefl x := by simp [ltB]
  trans x y z h1 h2 := by simp [ltB] at *; omega
  ntrans x y z h1 h2 := by simp [ltB] at *; omega
def BndL (l : List (Int × Int)) : Prop := ∀ x ∈ l, -4611686018427387904 ≤ x.1 ∧ x.1 ≤ 4611686018427387903
instance (l : List (Int × Int)) : Decidable (BndL l) := by unfold BndL; infer_instance
def toB (l : List (Int × Int)) (h : BndL l) : List BSp := l.attach.map fun x => ⟨x.1, h x.1 x.2⟩
theorem toB_val (l : List (Int × Int)) (h : BndL l) : (toB l h).map (·.1) = l := by
  unfold toB
  rw [List.map_map]
  exact List.attach_map_subtype_val l
theorem toB_len (l : List (Int × Int)) (h : BndL l) : (toB l h).length = l.length := by simp [toB]
def pdqB (l : List BSp) : List BSp := (Sort.pdq ltB l.toArray 0 l.toArray.size (Lib.bitLen l.toArray.size) true true).toList
def sortSp (l : List (Int × Int)) : List (Int × Int) := if h : BndL l then (pdqB (toB l h)).map (·.1) else l
def m_sortSp (_O : Ops) (l : List (Int × Int)) : Option (List (Int × Int)) := grd (decide (BndL l)) <| grd (okRoom l.length) <| some (sortSp l)
theorem m_sortSp_eq (l : List (Int × Int)) : m_sortSp std l = ((grd (decide (BndL l)) <| grd (okRoom l.length) <| some (sortSp l)) : Option (List (Int × Int))) := rfl

theorem pdqB_spec (l : List BSp) : (pdqB l).Perm l ∧ (pdqB l).Pairwise fun a b => a.1.1 ≤ b.1.1 := by
  obtain ⟨⟨h1, _, h3⟩, h4⟩ := Sort.pdq_sorts ltB swoB l.toArray 0 l.toArray.size (Lib.bitLen l.toArray.size) true true (Nat.zero_le _) (Nat.le_refl _) (Or.inl rfl)
  have hsz : (pdqB l).length = l.length := by simpa [pdqB] using h1
  refine ⟨?_, ?_⟩
  · have hex : ∀ (D : Array BSp) (n : Nat), D.size = n → (D.extract 0 n).toList = D.toList := fun D n h => by subst h; rw [Array.extract_size]
    have e1 := hex _ _ h1
    have e2 := hex l.toArray _ rfl
    rw [e1, e2] at h3
    exact h3
  · refine List.pairwise_iff_getElem.2 fun i j hi hj hij => ?_
    have := h4 i j (Nat.zero_le _) hij (by simpa using (by omega : j < l.length))
    have g : ∀ k (hk : k < (pdqB l).length), (Sort.pdq ltB l.toArray 0 l.toArray.size (Lib.bitLen l.toArray.size) true true)[k]! = (pdqB l)[k] := fun k hk => by
      rw [getElem!_pos _ k (by simpa [pdqB] using hk)]; rfl
    rw [g j hj, g i hi] at this
    simp [ltB] at this
    omega
theorem sortSp_perm (l : List (Int × Int)) : (sortSp l).Perm l := by
  unfold sortSp
  split
  · rename_i h
    have := ((pdqB_spec (toB l h)).1).map (·.1)
    rw [toB_val] at this
    exact this
  · exact List.Perm.refl _
theorem sortSp_len (l : List (Int × Int)) : (sortSp l).length = l.length := (sortSp_perm l).length_eq
theorem sortSp_sorted {l : List (Int × Int)} (h : BndL l) : (sortSp l).Pairwise fun a b => a.1 ≤ b.1 := by
  unfold sortSp
  rw [dif_pos h]
  exact (pdqB_spec (toB l h)).2.map _ (fun _ _ h => h)
/-- integers -/
def sortI (l : List Int) : List Int := l.mergeSort fun x y => decide (x ≤ y)
def m_sortI (_O : Ops) (l : List Int) : Option (List Int) := grd (okRoom l.length) <| some (sortI l)
theorem m_sortI_eq (l : List Int) : m_sortI std l = ((grd (okRoom l.length) <| some (sortI l)) : Option (List Int)) := rfl
theorem sortI_perm (l : List Int) : (sortI l).Perm l := List.mergeSort_perm _ _
theorem sortI_len (l : List Int) : (sortI l).length = l.length := (sortI_perm l).length_eq
theorem sortI_sorted (l : List Int) : (sortI l).Pairwise (· ≤ ·) := by
  have := List.pairwise_mergeSort (le := fun x y : Int => decide (x ≤ y)) (fun a b c h1 h2 => by simp at *; omega) (fun a b => by simp; omega) l
  exact this.imp (fun h => by simpa using h)
end Go.Proofs.YtmnhfaaaaejpaaaGreat
