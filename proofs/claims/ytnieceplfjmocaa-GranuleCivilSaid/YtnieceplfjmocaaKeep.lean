/-
  Facts that stay true in every later world, as one word. No program here.
-/
import Derived.Test.YtnieceplfjmocaaBase
namespace Go.Proofs.Ytnieceplfjmocaa
open Go.RowKit Go.BigFrame

/-- P holds at w and in every later world -/
def Kp (w : World) (P : World → Prop) : Prop := ∀ w', Below w.heap.size w w' → P w'
section
variable {w w' : World} {P Q : World → Prop}
theorem Kp.now (h : Kp w P) : P w := h w (Below.refl _ _)
theorem Kp.next (h : Kp w P) (hb : Below w.heap.size w w') : Kp w' P := fun _ hb' => h _ (below_next hb hb')
theorem Kp.alloc (h : Kp w P) (o : Obj) : Kp (w.alloc o) P := h.next ((Below.refl _ _).alloc (Nat.le_refl _) _)
theorem Kp.drewN (h : Kp w P) (n : Nat) : Kp (w.drewN n) P := h.next (below_drewN (Below.refl _ _) n)
theorem Kp.and (h : Kp w P) (h' : Kp w Q) : Kp w (fun z => P z ∧ Q z) := fun _ hb => ⟨h _ hb, h' _ hb⟩
theorem Kp.start (w : World) : Kp w (fun z => Below w.heap.size w z) := fun _ hb => hb
theorem Kp.sps {A : Option Addr} {l : List Sp} (h : SpsR w A l) : Kp w (fun z => SpsR z A l) := fun _ hb => h.below hb
theorem Kp.ints {A : Option Addr} {l : List Int} (h : IntsR w A l) : Kp w (fun z => IntsR z A l) := fun _ hb => h.below hb
theorem Kp.blk {g : Nat} {t : TypeId} {cs : Array Value} (h : Blk w g t cs) : Kp w (fun z => Blk z g t cs) := fun _ hb => h.below hb
theorem Kp.lt {g : Nat} (h : g < w.heap.size) : Kp w (fun z => g < z.heap.size) := fun _ hb => Nat.lt_of_lt_of_le h hb.size
theorem Kp.bel {a : World} (h : Below a.heap.size a w) : Kp w (fun z => Below a.heap.size a z) := fun _ hb => below_next h hb
end
end Go.Proofs.Ytnieceplfjmocaa
