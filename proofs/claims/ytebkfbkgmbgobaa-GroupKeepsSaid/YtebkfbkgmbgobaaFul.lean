/-
  A slice as long as its room, at the end of a call: it is read as any other.
-/
import Derived.Test.YtebkfbkgmbgobaaLift
namespace Go.Proofs.Ytebkfbkgmbgobaa
open Go.RowKit
section
variable {P : Program} {tb : Tab}
/-- a slice as long as its room is read as any other -/
def fulK : Ck → Ck
  | .ful e l => .arr true e l
  | c => c
theorem ful_one {B : Bs} {hp : List Ch} {s : St} {a : Act} {w : World} (hs : SatH B hp s a w) (i : Nat) : ∃ hp', SatH B hp' ⟨s.fr, setK s.hp i (fulK (nthCk s.hp i))⟩ a w ∧ faces hp' = faces hp := by
  cases hd : hp[i]? with
  | none =>
    refine ⟨hp, ⟨?_, hs.fr, hs.sz, hs.nd, hs.pre, hs.ok⟩, rfl⟩
    rw [setK_eq, List.set_eq_of_length_le]
    · exact hs.ck
    · rw [← hs.ck, List.length_map]; exact List.getElem?_eq_none_iff.1 hd
  | some d =>
    have hck : nthCk s.hp i = d.ck := by
      rw [← hs.ck, nthCk_eq, List.getD_eq_getElem?_getD, List.getElem?_map, hd]; rfl
    have same : d.ck = fulK d.ck → ∃ hp', SatH B hp' ⟨s.fr, setK s.hp i (fulK (nthCk s.hp i))⟩ a w ∧ faces hp' = faces hp := fun e => by
      refine ⟨hp, ⟨?_, hs.fr, hs.sz, hs.nd, hs.pre, hs.ok⟩, rfl⟩
      rw [setK_eq, hck, ← e, ← hs.ck]
      refine List.ext_getElem? fun j => ?_
      rw [List.getElem?_set]
      split
      · rename_i e1
        subst e1
        have hil := (List.getElem?_eq_some_iff.1 hd).1
        simp [hil]
        have := List.getElem?_eq_getElem hil
        rw [hd] at this
        injection this with this
        rw [← this]
      · rfl
    cases d with
    | blk g T cs => exact same rfl
    | arr q A c e l => exact same rfl
    | ro g T cs => exact same rfl
    | gone f => exact same rfl
    | own A c T e l => exact same rfl
    | ful A e l =>
      have hful : ChOk B.w w (faces hp) (.ful A e l) := hs.ok.ok i _ hd
      have hfs : faces (hp.set i (.arr true A l.length e l)) = faces hp := faces_set hd rfl
      have hok : ChOk B.w w (faces hp) (.arr true A l.length e l) := ⟨fun _ => hful.1, Nat.le_refl _, hful.2.1, hful.2.2⟩
      have hil := (List.getElem?_eq_some_iff.1 hd).1
      have key : ∀ (j : Nat) d', (hp.set i (.arr true A l.length e l))[j]? = some d' → (j = i ∧ d' = .arr true A l.length e l) ∨ (j ≠ i ∧ hp[j]? = some d') := fun j d' hj => by
        rw [List.getElem?_set] at hj
        split at hj
        · rename_i e1
          simp at hj
          exact .inl ⟨e1.symm, hj.symm⟩
        · rename_i e1; exact .inr ⟨fun e => e1 e.symm, hj⟩
      refine ⟨hp.set i (.arr true A l.length e l), ⟨?_, by rw [hfs]; exact hs.fr, hs.sz, hs.nd, by rw [hfs]; exact hs.pre, ⟨hs.ok.bel, fun j d' hj => ?_, fun j k d' e' hjk hj hk' hw b h1 h2 => ?_⟩⟩, hfs⟩
      · rw [List.map_set, setK_eq, hck, hs.ck]; rfl
      · rw [hfs]
        rcases key j d' hj with ⟨rfl, rfl⟩ | ⟨_, hj'⟩
        · exact hok
        · exact hs.ok.ok j d' hj'
      · rcases key j d' hj with ⟨rfl, rfl⟩ | ⟨hji, hj'⟩
        · cases hw
        · rcases key k e' hk' with ⟨rfl, rfl⟩ | ⟨hki, hk2⟩
          · exact hs.ok.sep j k d' _ hjk hj' hd hw b h1 h2
          · exact hs.ok.sep j k d' e' hjk hj' hk2 hw b h1 h2
theorem fin_ful {n0 : Nat} {R : AV → List Ck → Prop} {X : Cx} (hX : Good P n0 R X) (i : Nat) {l : List TE} {ck : List Ck} (h : X .fin l (setK ck i (fulK (nthCk ck i)))) : X .fin l ck := by
  obtain ⟨w, F0, Q0, _, _, rfl, _⟩ := hX
  intro hp w' hck hpre hok vs hvs
  have hs : SatH ⟨w, F0⟩ hp ⟨[], ck⟩ { tmps := #[], defers := [] } w' := ⟨hck, fun t => .inl rfl, Nat.zero_le _, rfl, hpre, hok⟩
  obtain ⟨hp', hs', hf⟩ := ful_one hs i
  exact h hp' w' hs'.ck hs'.pre hs'.ok vs (by rw [hf]; exact hvs)
end
end Go.Proofs.Ytebkfbkgmbgobaa
