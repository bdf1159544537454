/-
  granule.months: the lengths of the months of 400 years.
-/
import Derived.Test.YtnieceplfjmocaaCivil
import Derived.Test.YtnieceplfjmocaaOwn
namespace Go.Proofs.Ytnieceplfjmocaa
open Go.RowKit Go.BigFrame

def monAt (i : Nat) : Int := lenM (1970 + ((i / 12 : Nat) : Int)) (((i % 12 : Nat) : Int) + 1)
/-- the first k months -/
def monL (k : Nat) : List Int := (List.range k).map monAt
theorem monL_succ (k : Nat) : monL (k + 1) = monL k ++ [monAt k] := by simp [monL, List.range_succ]
theorem monL_len (k : Nat) : (monL k).length = k := by simp [monL]

set_option maxRecDepth 20000 in
set_option maxHeartbeats 2000000 in
theorem months_any (w : World) :
    Calls Try.prog 63 #[] w fun e w' => (∃ A c, e = .returned (.slice A (monL 4800).length c) ∧ IntsR w' A (monL 4800)) ∧ Below w.heap.size w w' := by
  go_enter Try.func63, Try.ntmps63
  go_wp2
  go_loopw [1, 4] (fun v x wr => ∃ (y : Nat) (A : Option Addr) (c : Nat), y ≤ 400 ∧ x = .int .i64 y ∧ v = .slice A (monL (12 * y)).length c ∧ OwnI wr w.heap.size A c (monL (12 * y)) ∧ Below w.heap.size w wr) (fun _ x _ => 400 - (intOf x).toNat)
  case atStart => exact ⟨0, none, 0, by omega, rfl, rfl, OwnI.nil _ _, Below.refl _ _⟩
  case round =>
    obtain ⟨y, A, c, hy, rfl, rfl, hown, hb⟩ := hrel
    by_cases hlt : y < 400
    · obtain ⟨wo, rfl⟩ : ∃ wo : World, wo = wr := ⟨_, rfl⟩
      have HO0 := Lib.hid hown
      have HB0 := Lib.hid hb
      clear hown hb
      have dy : decide ((y : Int) < 400) = true := by simp; omega
      go_wp2
      go_loopw [1, 7] (fun v x wr => ∃ (m : Nat) (A : Option Addr) (c : Nat), m ≤ 12 ∧ x = .int .i64 m ∧ v = .slice A (monL (12 * y + m)).length c ∧ OwnI wr w.heap.size A c (monL (12 * y + m)) ∧ Below w.heap.size w wr) (fun _ x _ => 12 - (intOf x).toNat)
      case atStart => exact ⟨0, A, c, by omega, rfl, rfl, HO0.out, HB0.out⟩
      case round =>
        obtain ⟨m, A, c, hm, rfl, rfl, hown, hb⟩ := hrel
        have HO := Lib.hid hown
        have HB := Lib.hid hb
        have hsz := hb.size
        have hlen := monL_len (12 * y + m)
        have HS := Lib.hid (monL_succ (12 * y + m))
        clear hown hb
        by_cases hlm : m < 12
        · have hA : lenM (1970 + (y : Int)) ((m : Int) + 1) = monAt (12 * y + m) := by
            unfold monAt
            rw [show (12 * y + m) / 12 = y by omega, show (12 * y + m) % 12 = m by omega]
          have HA := Lib.hid hA
          have hyb : yearB (1970 + (y : Int)) = true := by rw [yearB_iff]; omega
          have HY := Lib.hid hyb
          clear hA hyb
          generalize monL (12 * y + m) = L at *
          generalize monAt (12 * y + m) = a at *
          have hL5 : L.length ≤ 4800 := by omega
          have HLen := Lib.hid hlen
          clear hlen
          go_wp2_with (first | (go_at_call 40; refine (clen_any _ _ _ HY.out (by omega) (by omega)).mono ?_; rintro e w' ⟨rfl, rfl⟩; rw [HA.out]) | (at_builtin; refine wpList_append_int rfl (.tmp 10) (.tmp 16) rfl w.heap.size A c L rfl (HO.out.alloc _) wr.heap.size 0 1 a rfl ?h0 ?hl ?hb ?_))
          case h0 => simp [go_sem]
          case hl => omega
          case hb => simp; omega
          intro A' c' w2 hown2 hgr2
          have hB2 : Below w.heap.size w w2 := (HB.out.alloc hsz _).grown hgr2 (by simp; omega) (fun g e => (HO.out.blk _ e).1)
          have HO2 := Lib.hid hown2
          have HB2 := Lib.hid hB2
          clear hown2 hB2 hgr2
          go_wp2
          go_roundw
          case rel => exact ⟨m + 1, A', c', by omega, by go_num, by rw [← Nat.add_assoc, HS.out, List.length_append]; rfl, by rw [← Nat.add_assoc, HS.out]; exact HO2.out, HB2.out⟩
          case measure => simp [intOf]; omega
        · have hme : m = 12 := by omega
          subst hme
          go_wp2
          go_roundw
          case rel => exact ⟨y + 1, A, c, by omega, by go_num, by rw [show 12 * (y + 1) = 12 * y + 12 by omega], by rw [show 12 * (y + 1) = 12 * y + 12 by omega]; exact HO.out, HB.out⟩
          case measure => simp [intOf]; omega
    · have hye : y = 400 := by omega
      subst hye
      have HO := Lib.hid hown
      have HB := Lib.hid hb
      clear hown hb
      go_wp2
      go_ret
      exact ⟨⟨A, c, rfl, HO.out.reads⟩, HB.out⟩
end Go.Proofs.Ytnieceplfjmocaa
