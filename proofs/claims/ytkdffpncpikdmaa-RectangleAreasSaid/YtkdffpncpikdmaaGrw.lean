/-
  A symbolic run: slices.Grow of nil. No program here.
-/
import Derived.Test.YtkdffpncpikdmaaManR
import Derived.Test.YtkdffpncpikdmaaSrt
import Derived.Shelf.Spec.SlicesGrow
namespace Go.Proofs.Ytkdffpncpikdmaa
open Go.RowKit
section
variable {P : Program} {ρ : Go.Shelf.Ren}
theorem call_grow4 (L : Lays8.n4 P ρ) {tb : Tab} (ht : TabOk P tb) {te : TI} (hte : getTI tb (ρ.t 25) = some te) (he : te.el = some .i4) (hb64 : Nat.ble te.bytes 64 = true) {f : Nat} (hf : f = ρ.f 4) (hcB : callB P f = true)
    {n0 : Nat} {R : AV → List Ck → Prop} {O : Ops} {X : Cx} (hO : O = std) (hX : Good P n0 R X) {n : Int} {r : List (Int × Int × Int × Int)} {s : St} {K : AV → St → Prop} (hv : m_grow_i4 O n = some r) (hK : K (.c (.sl s.hp.length)) ⟨s.fr, s.hp ++ [.own (ρ.t 25) .i4 r]⟩) :
    X .call false f [.c (.raw (.slice none 0 0)), .c (.int .i64 n)] s K := by
  subst hO; subst hf
  obtain ⟨w0, F0, Q0, _, _, rfl, _⟩ := hX
  unfold m_grow_i4 at hv
  obtain ⟨hr, hv⟩ := grdS hv
  injection hv with hv
  subst hv
  have hr : 0 ≤ n ∧ n ≤ 1099511627776 := of_decide_eq_true hr
  obtain ⟨k, rfl⟩ : ∃ k : Nat, n = (k : Int) := ⟨n.toNat, by omega⟩
  refine Or.inr ⟨hcB, fun hp w hck hok vs hvs => ?_⟩
  rw [← hck] at hK
  have hvs' : vs = [.slice none 0 0, .int .i64 (k : Int)] := by
    simp only [List.map_cons, List.map_nil, AV.val, Ce.val, allv, Option.some.injEq] at hvs
    exact hvs.symm
  subst hvs'
  have hfin : ∀ (A' : Option Addr) (c' : Nat) (w' : World) (e : Ending), e = .returned (.slice A' 0 c') → HOk w0 (hp ++ [.own A' c' (ρ.t 25) .i4 []]) w' →
      ∃ v ret hp', e = .returned ret ∧ AV.rel (faces hp') v ret ∧ FsLe (faces hp) (faces hp') ∧ HOk w0 hp' w' ∧ (false = true → Below w.heap.size w w' ∧ News w hp hp') ∧ K v ⟨s.fr, hp'.map Ch.ck⟩ := fun A' c' w' e he hk' => by
    refine ⟨.c (.sl (hp.map Ch.ck).length), _, _, he, .inr ?_, faces_app _ _, hk', (fun h => by cases h), ?_⟩
    · have := face_new hp (.own A' c' (ρ.t 25) .i4 [])
      simp only [AV.val, Ce.val, List.length_map, this]
      rfl
    · rw [List.map_append]; exact hK
  rcases Nat.eq_zero_or_pos k with h0 | h0
  · subst h0
    refine (Any8.slices_Grow_room L none 0 0 0 w (Nat.le_refl _) (by omega) (by omega) (by omega)).mono ?_
    rintro e w' ⟨rfl, rfl⟩
    exact hfin none 0 w' _ rfl (hok.push (Below.refl _ _) (World.ownsRow_nil w' _ _ _) (fun b hb => by obtain ⟨ad, h, _⟩ := hb; cases h))
  · obtain ⟨it, z, hi, hz, hsz, hby, hcs, hzv, hz1⟩ := (ht _ _ hte).info
    have hes := ((ht _ _ hte).el .i4 he).1
    have hs4 : El.sz .i4 = 4 := rfl
    have hbytes : it.bytes ≤ 64 := by rw [hby]; exact Nat.le_of_ble_eq_true hb64
    have hk : k ≤ 1099511627776 := by omega
    refine (Any8.slices_Grow_grow L it z hi hz (by omega) none 0 0 k [] w (Nat.le_refl _) (by omega) (by have := Nat.mul_le_mul (show 0 + k ≤ 1099511627776 by omega) hbytes; omega) (by omega) (by simp) (fun _ => rfl) (fun a h => by cases h)).mono ?_
    rintro e w' ⟨rfl, rfl⟩
    refine hfin _ _ _ _ rfl (hok.push ⟨rfl, rfl, rfl, by simp, fun b hb => by first | exact heap_alloc_old w.drew _ hb | exact heap_alloc_old w.drew _ b hb⟩ ?_ (fun b hb => ?_))
    · refine World.ownsRow_made w.drew _ _ (by exact hok.bel.size) (grownCap_le_maxLen w (0 + k) 0 _ (by simp only [maxLen]; omega)) ?_
      have hge := grownCap_ge w (0 + k) 0 (ρ.t 25)
      simp only [Array.size_append, List.size_toArray, List.length_nil, size_zeroCells]
      have h1 : z.cells.size = 4 := by omega
      rw [h1, hs4]
      omega
    · obtain ⟨ad, h1, h2⟩ := hb
      injection h1 with h1
      subst h1
      exact Nat.le_of_eq h2
end
end Go.Proofs.Ytkdffpncpikdmaa
