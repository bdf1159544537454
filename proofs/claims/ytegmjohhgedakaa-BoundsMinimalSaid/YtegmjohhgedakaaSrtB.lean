/-
  The library's functions of this program (networks of bounds), by the kit's contracts and by hand.
-/
import Derived.Test.YtegmjohhgedakaaTabN
import Derived.Test.YtegmjohhgedakaaManB
import Derived.Test.YtegmjohhgedakaaRepW
namespace Go.Proofs.Ytegmjohhgedakaa
open Go.RowKit
theorem flN (x : Int) : ∀ N, El.flat .i1 (List.replicate N x) = List.replicate N (Value.int .i64 x) := by
  intro N
  unfold El.flat
  induction N with
  | zero => rfl
  | succ N ih =>
    rw [List.replicate_succ, List.replicate_succ]
    exact congrArg (Value.int .i64 x :: ·) ih
theorem fn_rep_i1 {O0 : Ops} (hO0 : O0 = std) {n : Int} {l r1 : List Int} (h : m_rep_i1 O0 n l = some r1) :
    Fn Try.prog 55 [.c (.sl 0), .c (.int .i64 n)] [.arr false .i1 l] (fun v cks => v = .c (.sl 1) ∧ cks = [.own 3 .i1 r1]) := by
  subst hO0
  unfold m_rep_i1 at h
  obtain ⟨hd0, h⟩ := grdS h
  injection h with h
  subst h
  obtain ⟨hl, hn0, hn1⟩ := of_decide_eq_true hd0
  clear hd0
  obtain ⟨N, rfl⟩ : ∃ N : Nat, n = (N : Int) := ⟨n.toNat, by omega⟩
  obtain ⟨x, rfl⟩ : ∃ x, l = [x] := by
    cases l with
    | nil => simp at hl
    | cons x l => exact ⟨x, by rw [List.length_cons] at hl; rw [List.eq_nil_of_length_eq_zero (show l.length = 0 by omega)]⟩
  intro w hp0 hck hok vs hvs
  obtain ⟨d, rfl, hd⟩ : ∃ d, hp0 = [d] ∧ d.ck = .arr false .i1 [x] := by
    cases hp0 with
    | nil => simp at hck
    | cons d t =>
      simp only [List.map_cons, List.cons.injEq, List.map_eq_nil_iff] at hck
      exact ⟨d, by rw [hck.2], hck.1⟩
  cases d <;> simp only [Ch.ck] at hd <;> cases hd
  rename_i A cap
  have hvs' : vs = [.slice A 1 cap, .int .i64 (N : Int)] := by
    simp [AV.val, Ce.val, faces, Ch.face, allv] at hvs
    exact hvs.symm
  subst hvs'
  obtain ⟨-, -, -, hcell⟩ := hok.ok 0 _ rfl
  obtain ⟨b, o, rfl, hcl⟩ := hcell (show 0 < [x].length by simp)
  have hc : w.cell? ⟨b, o, none⟩ = some (.int .i64 x) := by
    have := hcl 0 (show 0 < [x].length by simp) 0 (.int .i64 x) rfl
    simpa using this
  refine Calls.mono (rep_any N x ⟨b, o, none⟩ cap w hc (by omega)) fun e w' ⟨he, hg, hb⟩ => ?_
  have hr : List.replicate (Int.toNat (N : Int)) (List.getD [x] 0 0) = List.replicate N x := by rw [Int.toNat_natCast]; rfl
  rw [hr]
  have hfl := flN x N
  refine ⟨.c (.sl 1), [.own 3 .i1 (List.replicate N x)], [.own (some ⟨w.heap.size, 0, none⟩) N 3 .i1 (List.replicate N x)], _, ⟨rfl, rfl⟩, rfl, he, ?_, hok.push hb ?_ ?_, fun j c b hj hb => ?_, by simp⟩
  · simp [AV.val, Ce.val, faces, Ch.face]
  · refine ⟨?_, .inr ⟨w.heap.size, N, _, ?_, Nat.le_refl _, hg, ?_, ?_, ?_, ?_⟩⟩
    · rw [hfl, List.length_replicate, List.length_replicate]; exact (Nat.mul_one N).symm
    · simp
    · simp
    · unfold maxLen; omega
    · simp [El.sz]
    · rw [hfl]; simp [El.sz]
  · intro b hb
    obtain ⟨ad, h1, h2⟩ := hb
    injection h1 with h1
    subst h1
    exact Nat.le_of_eq h2
  · cases j with
    | zero =>
      simp at hj
      subst hj
      obtain ⟨ad, h1, h2⟩ := hb
      injection h1 with h1
      subst h1
      exact Nat.le_of_eq h2
    | succ j => simp at hj
set_option maxRecDepth 100000 in
theorem fn_clone_i1 {O0 : Ops} (hO0 : O0 = std) {l r1 : List Int} (h : m_clone_i1 O0 l = some r1) :
    Fn Try.prog 39 [.c (.sl 0)] [.arr false .i1 l] (fun v cks => v = .c (.sl 1) ∧ cks = [.own 3 .i1 r1]) := by
  subst hO0
  unfold m_clone_i1 at h
  obtain ⟨hl, h⟩ := grdS h
  injection h with h
  subst h
  have hl : l.length ≤ 1099511627776 := of_decide_eq_true hl
  refine fn_run tab_holds eqs_holds mixed [] Try.func39 (by kernel_rfl) (by kernel_rfl) (Nat.le_of_ble_eq_true rfl) ?_
  intro O X hO hX
  cbv
  refine ⟨fun h => ?_, ?_⟩
  · have h0 : l = [] := by
      have := eq_t hO h
      rw [ofNat_e hO, len_e hO] at this
      exact List.eq_nil_of_length_eq_zero (Int.ofNat_eq_zero.1 this)
    subst h0
    cbv
    exact fin_ok hX rfl ⟨[2], .c (.sl 1), [.own 3 .i1 []], ⟨rfl, rfl⟩, rfl, rfl, rfl, rfl, by cbv; try simp⟩
  · cbv
    refine ⟨room_mk hO (by simp), room_mk hO hl, ?_⟩
    refine fin_ok hX rfl ⟨[3], .c (.sl 1), [.own 3 .i1 l], ⟨rfl, rfl⟩, rfl, rfl, rfl, rfl, ?_⟩
    rw [app_e hO]
    cbv; try simp
set_option maxRecDepth 100000 in
theorem fn_clone_i3 {O0 : Ops} (hO0 : O0 = std) {l r1 : List (Int × Int × Int)} (h : m_clone_i3 O0 l = some r1) :
    Fn Try.prog 25 [.c (.sl 0)] [.arr false .i3 l] (fun v cks => v = .c (.sl 1) ∧ cks = [.own 32 .i3 r1]) := by
  subst hO0
  unfold m_clone_i3 at h
  obtain ⟨hl, h⟩ := grdS h
  injection h with h
  subst h
  have hl : l.length ≤ 1099511627776 := of_decide_eq_true hl
  refine fn_run tab_holds eqs_holds mixed [] Try.func25 (by kernel_rfl) (by kernel_rfl) (Nat.le_of_ble_eq_true rfl) ?_
  intro O X hO hX
  cbv
  refine ⟨fun h => ?_, ?_⟩
  · have h0 : l = [] := by
      have := eq_t hO h
      rw [ofNat_e hO, len_e hO] at this
      exact List.eq_nil_of_length_eq_zero (Int.ofNat_eq_zero.1 this)
    subst h0
    cbv
    exact fin_ok hX rfl ⟨[2], .c (.sl 1), [.own 32 .i3 []], ⟨rfl, rfl⟩, rfl, rfl, rfl, rfl, by cbv; try simp⟩
  · cbv
    refine ⟨room_mk hO (by simp), room_mk hO hl, ?_⟩
    refine fin_ok hX rfl ⟨[3], .c (.sl 1), [.own 32 .i3 l], ⟨rfl, rfl⟩, rfl, rfl, rfl, rfl, ?_⟩
    rw [app_e hO]
    cbv; try simp
end Go.Proofs.Ytegmjohhgedakaa
