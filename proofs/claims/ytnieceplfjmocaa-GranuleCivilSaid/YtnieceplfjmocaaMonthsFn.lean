import Derived.Test.YtnieceplfjmocaaTabEq
import Derived.Test.YtnieceplfjmocaaMonths
namespace Go.Proofs.Ytnieceplfjmocaa
open Go.RowKit
set_option maxRecDepth 100000
theorem clen_fn {y m v : Int} (hy : yearB y = true) (h1 : 1 ≤ m) (h2 : m ≤ 12) (hv : lenM y m = v) : Fn Try.prog 40 [.c (.int .i64 y), .c (.int .i64 m)] [] (fun v' c => v' = .c (.int .i64 v) ∧ c = []) :=
  fn_old [.int .i64 y, .int .i64 m] (.int .i64 v) (fun w => (clen_any y m w hy h1 h2).mono fun e w' ⟨h, hw⟩ => ⟨by rw [h, hv], by rw [← hw]; exact Below.refl _ _⟩) (fun fs => rfl) (fun fs => rfl)

theorem months_fn : Fn Try.prog 63 [] [] (fun v cks => v = .c (.sl 0) ∧ cks = [.own 3 .i1 (monL 4800)]) := by
  refine fn_run tab_holds eqs_holds mixed [] Try.func63 (by kernel_rfl) (by kernel_rfl) (by decide) ?_
  intro O X hO hX
  cbv
  refine loop2 tab_holds eqs_holds mixed [] hO hX (fun (i : Int) (L : List Int) => (0 ≤ i ∧ i ≤ 400) ∧ L = monL (12 * i.toNat)) (fun i _ => [(4, .c (.int .i64 i)), (1, .c (.sl 1))]) (fun _ L => [(1, .own 3 .i1 L)]) (fun i _ => 400 - i.toNat) 0 [] (by kernel_rfl) ⟨by omega, rfl⟩ (by cbv; simp) ?_
  intro i L hI
  have hi := hI.1; have hL := hI.2
  cbv
  split
  · rename_i h1
    have g1 := lt_t hO h1
    cbv
    refine loop2 tab_holds eqs_holds mixed [] hO hX (fun (m : Int) (L : List Int) => (0 ≤ m ∧ m ≤ 12) ∧ L = monL (12 * i.toNat + m.toNat)) (fun m _ => [(7, .c (.int .i64 m)), (1, .c (.sl 1))]) (fun _ L => [(1, .own 3 .i1 L)]) (fun m _ => 12 - m.toNat) 0 L (by kernel_rfl) ⟨by omega, hL⟩ (by cbv) ?_
    intro m L2 hJ
    have hm := hJ.1; have hL2 := hJ.2
    cbv
    split
    · rename_i h2
      have g2 := lt_t hO h2
      obtain ⟨v, hv⟩ : ∃ v, monAt (12 * i.toNat + m.toNat) = v := ⟨_, rfl⟩
      cbv
      refine ⟨by subst hO; refine inr64 ?_ ?_ <;> simp only [std] <;> omega, by subst hO; refine inr64 ?_ ?_ <;> simp only [std] <;> omega, ?_⟩
      refine call_go hO hX (clen_fn (v := v) ?_ ?_ ?_ ?_) (by kernel_rfl) [] rfl trivial rfl ?_
      · rw [add_e hO, yearB_iff]; omega
      · rw [add_e hO]; (try omega)
      · rw [add_e hO]; (try omega)
      · rw [← hv, add_e hO, add_e hO, monAt, show ((12 * i.toNat + m.toNat) / 12 : Nat) = i.toNat by omega, show (12 * i.toNat + m.toNat) % 12 = m.toNat by omega]
        (try (congr 1 <;> omega))
      rintro _ _ ⟨rfl, rfl⟩
      cbv
      refine ⟨room_mk hO (by rw [hL2, monL_len]; omega), room_mk hO (by simp), inr_mk hO (by rw [add_e hO]; omega) (by rw [add_e hO]; omega), O .add m 1, O .app .i1 L2 [v], [0, 3], ⟨by rw [add_e hO]; omega, ?_⟩, by cbv, ?_⟩
      · rw [app_e hO, hL2, ← hv, ← monL_succ, add_e hO]; (try (congr 1; omega))
      · rw [add_e hO]; (try omega)
    · rename_i h2
      have g2 := lt_f hO h2
      cbv
      refine ⟨by subst hO; refine inr64 ?_ ?_ <;> simp only [std] <;> omega, O .add i 1, L2, [0, 1], ⟨by rw [add_e hO]; omega, ?_⟩, by cbv, ?_⟩
      · rw [hL2, add_e hO]; (try (congr 1; omega))
      · rw [add_e hO]; (try omega)
  · rename_i h1
    have g1 := lt_f hO h1
    cbv
    refine fin_ok hX rfl ⟨[1], .c (.sl 0), [.own 3 .i1 L], ⟨rfl, ?_⟩, rfl, rfl, rfl, rfl, ?_⟩
    · rw [hL, show i.toNat = 400 by omega]
    · cbv
end Go.Proofs.Ytnieceplfjmocaa
