/-
  The table of types for the symbolic run, held against the program.
-/
import Derived.Test.YtmnhfaaaaejpaaaGreatSymUse
import Derived.Test.YtmnhfaaaaejpaaaGreatProg
namespace Go.Proofs.YtmnhfaaaaejpaaaGreat
open Go.RowKit

def tab : Tab := [
  (2, ⟨false, 1, 8, [.int .i64 0], [], none, some .i1, some .i64, false, false, false⟩),
  (3, ⟨false, 1, 8, [.int .i64 0], [], none, some .i1, some .i64, false, false, false⟩),
  (4, ⟨false, 1, 1, [.bool false], [], none, some .b1, none, true, false, false⟩),
  (5, ⟨false, 1, 1, [.int .u8 0], [], none, none, some .u8, false, false, false⟩),
  (6, ⟨false, 1, 1, [.int .u8 0], [], none, none, some .u8, false, false, false⟩),
  (7, ⟨true, 4, 24, [.int .i64 0, .int .i64 0, .bool false, .int .u8 0], [(0, 1, false), (1, 1, false), (2, 1, false), (3, 1, false)], none, none, none, false, false, false⟩),
  (12, ⟨false, 1, 8, [.int .u64 0], [], none, none, some .u64, false, false, false⟩),
  (21, ⟨false, 1, 4, [.int .i32 0], [], none, none, some .i32, false, false, false⟩),
  (22, ⟨false, 1, 24, [.raw (.slice none 0 0)], [], some 3, none, none, false, false, false⟩),
  (23, ⟨false, 1, 24, [.raw (.slice none 0 0)], [], some 36, none, none, false, false, false⟩),
  (24, ⟨true, 14, 256, [.int .i64 0, .int .i64 0, .int .i64 0, .int .i64 0, .raw (.slice none 0 0), .raw (.slice none 0 0), .raw (.slice none 0 0), .raw (.slice none 0 0), .raw (.slice none 0 0), .raw (.slice none 0 0), .raw (.slice none 0 0), .raw (.slice none 0 0), .raw (.slice none 0 0), .int .i64 0], [(0, 1, false), (1, 1, false), (2, 1, false), (3, 1, false), (4, 1, false), (5, 1, false), (6, 1, false), (7, 1, false), (8, 1, false), (9, 1, false), (10, 1, false), (11, 1, false), (12, 1, false), (13, 1, false)], none, none, none, false, false, false⟩),
  (25, ⟨true, 14, 256, [.int .i64 0, .int .i64 0, .int .i64 0, .int .i64 0, .raw (.slice none 0 0), .raw (.slice none 0 0), .raw (.slice none 0 0), .raw (.slice none 0 0), .raw (.slice none 0 0), .raw (.slice none 0 0), .raw (.slice none 0 0), .raw (.slice none 0 0), .raw (.slice none 0 0), .int .i64 0], [(0, 1, false), (1, 1, false), (2, 1, false), (3, 1, false), (4, 1, false), (5, 1, false), (6, 1, false), (7, 1, false), (8, 1, false), (9, 1, false), (10, 1, false), (11, 1, false), (12, 1, false), (13, 1, false)], none, none, none, false, false, false⟩),
  (28, ⟨false, 1, 8, [.int .i64 0], [], none, some .i1, some .i64, false, false, false⟩),
  (35, ⟨true, 2, 16, [.int .i64 0, .int .i64 0], [(0, 1, false), (1, 1, false)], none, some .i2, none, false, true, false⟩),
  (36, ⟨true, 2, 16, [.int .i64 0, .int .i64 0], [(0, 1, false), (1, 1, false)], none, some .i2, none, false, true, false⟩),
  (38, ⟨false, 1, 24, [.raw (.slice none 0 0)], [], some 37, none, none, false, false, false⟩),
  (51, ⟨false, 1, 24, [.raw (.slice none 0 0)], [], some 22, none, none, false, false, false⟩),
  (58, ⟨true, 3, 24, [.int .i64 0, .int .i64 0, .int .i64 0], [(0, 1, false), (1, 1, false), (2, 1, false)], none, some .i3, none, false, true, false⟩),
  (59, ⟨true, 3, 24, [.int .i64 0, .int .i64 0, .int .i64 0], [(0, 1, false), (1, 1, false), (2, 1, false)], none, some .i3, none, false, true, false⟩),
  (60, ⟨true, 8, 64, [.int .i64 0, .int .i64 0, .int .i64 0, .int .i64 0, .int .i64 0, .int .i64 0, .int .i64 0, .int .i64 0], [(0, 3, true), (3, 1, false), (4, 1, false), (5, 1, false), (6, 1, false), (7, 1, false)], none, none, none, false, false, false⟩),
  (61, ⟨true, 8, 64, [.int .i64 0, .int .i64 0, .int .i64 0, .int .i64 0, .int .i64 0, .int .i64 0, .int .i64 0, .int .i64 0], [(0, 3, true), (3, 1, false), (4, 1, false), (5, 1, false), (6, 1, false), (7, 1, false)], none, none, none, false, false, false⟩),
  (69, ⟨false, 1, 8, [.int .u64 0], [], none, none, some .u64, false, false, false⟩),
  (76, ⟨false, 1, 24, [.raw (.slice none 0 0)], [], some 78, none, none, false, false, false⟩),
  (85, ⟨false, 1, 8, [.int .i64 0], [], none, some .i1, some .i64, false, false, false⟩),
  (93, ⟨false, 1, 4, [.int .u32 0], [], none, none, some .u32, false, false, false⟩),
  (95, ⟨false, 1, 8, [.int .u64 0], [], none, none, some .u64, false, false, false⟩),
  (105, ⟨false, 1, 8, [.int .u64 0], [], none, none, some .u64, false, false, false⟩),
  (126, ⟨false, 1, 1, [.int .u8 0], [], none, none, some .u8, false, false, false⟩),
  (130, ⟨false, 1, 4, [.int .i32 0], [], none, none, some .i32, false, false, false⟩),
  (131, ⟨false, 1, 4, [.int .i32 0], [], none, none, some .i32, false, false, false⟩),
  (1, ⟨false, 1, 8, [.raw .nilFunc], [], none, none, none, false, false, false⟩),
  (26, ⟨false, 1, 8, [.raw .nilFunc], [], none, none, none, false, false, false⟩),
  (27, ⟨false, 1, 8, [.raw .nilFunc], [], none, none, none, false, false, false⟩),
  (30, ⟨false, 1, 8, [.raw .nilFunc], [], none, none, none, false, false, false⟩),
  (31, ⟨false, 1, 8, [.raw .nilFunc], [], none, none, none, false, false, false⟩),
  (32, ⟨false, 1, 8, [.raw .nilFunc], [], none, none, none, false, false, false⟩),
  (34, ⟨false, 1, 8, [.raw .nilFunc], [], none, none, none, false, false, false⟩),
  (37, ⟨false, 1, 8, [.raw (.pointer none)], [], none, none, none, false, false, false⟩),
  (39, ⟨false, 1, 8, [.raw .nilFunc], [], none, none, none, false, false, false⟩),
  (40, ⟨false, 1, 8, [.raw .nilFunc], [], none, none, none, false, false, false⟩),
  (41, ⟨false, 1, 8, [.raw .nilFunc], [], none, none, none, false, false, false⟩),
  (42, ⟨false, 1, 8, [.raw .nilFunc], [], none, none, none, false, false, false⟩),
  (43, ⟨false, 1, 8, [.raw .nilFunc], [], none, none, none, false, false, false⟩),
  (44, ⟨false, 1, 8, [.raw .nilFunc], [], none, none, none, false, false, false⟩),
  (45, ⟨false, 1, 8, [.raw .nilFunc], [], none, none, none, false, false, false⟩),
  (46, ⟨false, 1, 8, [.raw .nilFunc], [], none, none, none, false, false, false⟩),
  (47, ⟨false, 1, 8, [.raw .nilFunc], [], none, none, none, false, false, false⟩),
  (48, ⟨false, 1, 8, [.raw .nilFunc], [], none, none, none, false, false, false⟩),
  (49, ⟨false, 1, 8, [.raw .nilFunc], [], none, none, none, false, false, false⟩),
  (50, ⟨false, 1, 8, [.raw .nilFunc], [], none, none, none, false, false, false⟩),
  (52, ⟨false, 1, 8, [.raw .nilFunc], [], none, none, none, false, false, false⟩),
  (53, ⟨false, 1, 8, [.raw .nilFunc], [], none, none, none, false, false, false⟩),
  (54, ⟨false, 1, 8, [.raw .nilFunc], [], none, none, none, false, false, false⟩),
  (55, ⟨false, 1, 8, [.raw .nilFunc], [], none, none, none, false, false, false⟩),
  (56, ⟨false, 1, 8, [.raw .nilFunc], [], none, none, none, false, false, false⟩),
  (57, ⟨false, 1, 8, [.raw .nilFunc], [], none, none, none, false, false, false⟩),
  (62, ⟨false, 1, 8, [.raw .nilFunc], [], none, none, none, false, false, false⟩),
  (64, ⟨false, 1, 8, [.raw .nilFunc], [], none, none, none, false, false, false⟩),
  (65, ⟨false, 1, 8, [.raw .nilFunc], [], none, none, none, false, false, false⟩),
  (66, ⟨false, 1, 8, [.raw .nilFunc], [], none, none, none, false, false, false⟩),
  (67, ⟨false, 1, 8, [.raw .nilFunc], [], none, none, none, false, false, false⟩),
  (68, ⟨false, 1, 8, [.raw .nilFunc], [], none, none, none, false, false, false⟩),
  (70, ⟨false, 1, 8, [.raw .nilFunc], [], none, none, none, false, false, false⟩),
  (71, ⟨false, 1, 8, [.raw .nilFunc], [], none, none, none, false, false, false⟩),
  (73, ⟨false, 1, 8, [.raw .nilFunc], [], none, none, none, false, false, false⟩),
  (75, ⟨false, 1, 8, [.raw .nilFunc], [], none, none, none, false, false, false⟩),
  (77, ⟨false, 1, 8, [.raw .nilFunc], [], none, none, none, false, false, false⟩),
  (78, ⟨false, 1, 8, [.raw .nilFunc], [], none, none, none, false, false, false⟩),
  (79, ⟨false, 1, 8, [.raw .nilFunc], [], none, none, none, false, false, false⟩),
  (80, ⟨false, 1, 8, [.raw .nilFunc], [], none, none, none, false, false, false⟩),
  (81, ⟨false, 1, 8, [.raw .nilFunc], [], none, none, none, false, false, false⟩),
  (82, ⟨false, 1, 8, [.raw .nilFunc], [], none, none, none, false, false, false⟩),
  (83, ⟨false, 1, 8, [.raw .nilFunc], [], none, none, none, false, false, false⟩),
  (84, ⟨false, 1, 8, [.raw .nilFunc], [], none, none, none, false, false, false⟩),
  (87, ⟨false, 1, 8, [.raw .nilFunc], [], none, none, none, false, false, false⟩),
  (88, ⟨false, 1, 8, [.raw .nilFunc], [], none, none, none, false, false, false⟩),
  (89, ⟨false, 1, 8, [.raw .nilFunc], [], none, none, none, false, false, false⟩),
  (91, ⟨false, 1, 8, [.raw .nilFunc], [], none, none, none, false, false, false⟩),
  (92, ⟨false, 1, 8, [.raw .nilFunc], [], none, none, none, false, false, false⟩),
  (94, ⟨false, 1, 8, [.raw .nilFunc], [], none, none, none, false, false, false⟩),
  (96, ⟨false, 1, 8, [.raw .nilFunc], [], none, none, none, false, false, false⟩),
  (97, ⟨false, 1, 8, [.raw .nilFunc], [], none, none, none, false, false, false⟩),
  (98, ⟨false, 1, 8, [.raw .nilFunc], [], none, none, none, false, false, false⟩),
  (100, ⟨false, 1, 8, [.raw .nilFunc], [], none, none, none, false, false, false⟩),
  (101, ⟨false, 1, 8, [.raw .nilFunc], [], none, none, none, false, false, false⟩),
  (102, ⟨false, 1, 8, [.raw .nilFunc], [], none, none, none, false, false, false⟩),
  (103, ⟨false, 1, 8, [.raw .nilFunc], [], none, none, none, false, false, false⟩),
  (104, ⟨false, 1, 8, [.raw .nilFunc], [], none, none, none, false, false, false⟩),
  (106, ⟨false, 1, 8, [.raw .nilFunc], [], none, none, none, false, false, false⟩),
  (107, ⟨false, 1, 8, [.raw .nilFunc], [], none, none, none, false, false, false⟩),
  (108, ⟨false, 1, 8, [.raw .nilFunc], [], none, none, none, false, false, false⟩),
  (109, ⟨false, 1, 8, [.raw (.pointer none)], [], none, none, none, false, false, false⟩),
  (110, ⟨false, 1, 8, [.raw .nilFunc], [], none, none, none, false, false, false⟩),
  (111, ⟨false, 1, 8, [.raw .nilFunc], [], none, none, none, false, false, false⟩),
  (112, ⟨false, 1, 8, [.raw .nilFunc], [], none, none, none, false, false, false⟩),
  (113, ⟨false, 1, 8, [.raw .nilFunc], [], none, none, none, false, false, false⟩),
  (114, ⟨false, 1, 8, [.raw .nilFunc], [], none, none, none, false, false, false⟩),
  (116, ⟨false, 1, 8, [.raw .nilFunc], [], none, none, none, false, false, false⟩),
  (117, ⟨false, 1, 8, [.raw .nilFunc], [], none, none, none, false, false, false⟩),
  (118, ⟨false, 1, 8, [.raw .nilFunc], [], none, none, none, false, false, false⟩),
  (119, ⟨false, 1, 8, [.raw .nilFunc], [], none, none, none, false, false, false⟩),
  (125, ⟨false, 1, 8, [.raw .nilFunc], [], none, none, none, false, false, false⟩),
  (128, ⟨false, 1, 8, [.raw .nilFunc], [], none, none, none, false, false, false⟩),
  (129, ⟨false, 1, 8, [.raw (.pointer none)], [], none, none, none, false, false, false⟩)]
theorem tab_holds : TabOk Tryz.prog tab := tab_ok (by kernel_rfl)
theorem mixed : Tryz.prog.follows .mixedOrders = true := by kernel_rfl

theorem getTI_mem : ∀ {tb : Tab} {T : TypeId} {ti : TI}, getTI tb T = some ti → (T, ti) ∈ tb := by
  intro tb
  induction tb with
  | nil => intro T ti h; cases h
  | cons x tb ih =>
    intro T ti h
    obtain ⟨t, i⟩ := x
    simp only [getTI] at h
    cases hb : Nat.beq t T with
    | true =>
      rw [hb] at h
      have e1 := Nat.eq_of_beq_eq_true hb
      simp at h
      subst e1; subst h
      exact List.mem_cons_self
    | false => rw [hb] at h; exact List.mem_cons_of_mem _ (ih (by simpa using h))
def EqT (P : Program) (T : TypeId) (n : Nat) : Prop := ∀ (fs : Faces) l l' vs vs' r (x y : Operand) (w : World), l.length = n → l'.length = n → eqL std l l' = some r → vals fs l = some vs → vals fs l' = some vs' →
  (do eqGuard .eql T x y (.agg vs.toArray) (.agg vs'.toArray); binOp .eql T (.agg vs.toArray) (.agg vs'.toArray)).run P w = .ok (.bool r) w ∧
  (do eqGuard .neq T x y (.agg vs.toArray) (.agg vs'.toArray); binOp .neq T (.agg vs.toArray) (.agg vs'.toArray)).run P w = .ok (.bool !r) w
theorem vals1 {fs : Faces} {k : IntKind} {a : Int} {l : List Ce} {vs : List Value} (h : vals fs (.int k a :: l) = some vs) : ∃ r, vs = .int k a :: r ∧ vals fs l = some r := by
  simp only [vals, List.map_cons, Ce.val, allv] at h
  cases hl : allv (l.map (Ce.val fs)) with
  | none => rw [hl] at h; cases h
  | some r => rw [hl] at h; injection h with h; exact ⟨r, h.symm, hl⟩
theorem vals0 {fs : Faces} {vs : List Value} (h : vals fs [] = some vs) : vs = [] := by simp [vals, allv] at h; exact h
end Go.Proofs.YtmnhfaaaaejpaaaGreat
