/-
  interval.Valid, the line, and the like: what they answer.
-/
import Derived.Test.YtnieceplfjmocaaBase
import Derived.Test.YtnieceplfjmocaaProg
namespace Go.Proofs.Ytnieceplfjmocaa
open Go.RowKit Go.BigFrame

def lineB (x : Int) : Bool := decide (-4398046511104 ≤ x) && decide (x ≤ 4398046511104)
def halfB (x : Int) : Bool := decide (-2199023255552 ≤ x) && decide (x ≤ 2199023255552)
def ivB (a b : Int) : Bool := lineB a && (lineB b && decide (a < b))

theorem lineB_t {x : Int} (h : -4398046511104 ≤ x) : decide (x ≤ 4398046511104) = lineB x := by simp [lineB, h]
theorem lineB_f {x : Int} (h : x < -4398046511104) : false = lineB x := by simp [lineB]; omega
theorem lineB_iff {x : Int} : lineB x = true ↔ -4398046511104 ≤ x ∧ x ≤ 4398046511104 := by simp [lineB]
theorem halfB_t {x : Int} (h : -2199023255552 ≤ x) : decide (x ≤ 2199023255552) = halfB x := by simp [halfB, h]
theorem halfB_f {x : Int} (h : x < -2199023255552) : false = halfB x := by simp [halfB]; omega
theorem halfB_iff {x : Int} : halfB x = true ↔ -2199023255552 ≤ x ∧ x ≤ 2199023255552 := by simp [halfB]
theorem ivB_iff {a b : Int} : ivB a b = true ↔ -4398046511104 ≤ a ∧ a < b ∧ b ≤ 4398046511104 := by simp [ivB, lineB]; omega

set_option maxHeartbeats 400000 in
theorem iline_any (x : Int) (w : World) :
    Calls Try.prog 61 #[.int .i64 x] w fun e w' => e = .returned (.bool (lineB x)) ∧ w = w' := by
  go_enter Try.func61, Try.ntmps61
  go_wp2
  · go_ret; exact ⟨ret_bool (lineB_t ‹_›), rfl⟩
  · go_ret; exact ⟨ret_bool (lineB_f ‹_›), rfl⟩

set_option maxHeartbeats 400000 in
theorem gline_any (x : Int) (w : World) :
    Calls Try.prog 50 #[.int .i64 x] w fun e w' => e = .returned (.bool (lineB x)) ∧ w = w' := by
  go_enter Try.func50, Try.ntmps50
  go_wp2
  · go_ret; exact ⟨ret_bool (lineB_t ‹_›), rfl⟩
  · go_ret; exact ⟨ret_bool (lineB_f ‹_›), rfl⟩

set_option maxHeartbeats 400000 in
theorem ghalf_any (x : Int) (w : World) :
    Calls Try.prog 47 #[.int .i64 x] w fun e w' => e = .returned (.bool (halfB x)) ∧ w = w' := by
  go_enter Try.func47, Try.ntmps47
  go_wp2
  · go_ret; exact ⟨ret_bool (halfB_t ‹_›), rfl⟩
  · go_ret; exact ⟨ret_bool (halfB_f ‹_›), rfl⟩

set_option maxHeartbeats 400000 in
theorem ivalid_any (a b : Int) (w : World) :
    Calls Try.prog 33 #[.agg #[.int .i64 a, .int .i64 b]] w fun e w' => e = .returned (.bool (ivB a b)) ∧ Below w.heap.size w w' := by
  go_enter Try.func33, Try.ntmps33
  go_wp2_with (go_at_call 61; refine (iline_any _ _).mono ?_; rintro e w' ⟨rfl, rfl⟩)
  all_goals (go_ret; exact ⟨ret_bool (by simp [ivB, *]), (Below.refl _ _).alloc (Nat.le_refl _) _⟩)

theorem ivalid_at {a b : Int} {v : Bool} (h : ivB a b = v) (w : World) :
    Calls Try.prog 33 #[.agg #[.int .i64 a, .int .i64 b]] w fun e w' => e = .returned (.bool v) ∧ Below w.heap.size w w' := h ▸ ivalid_any a b w

set_option maxHeartbeats 400000 in
theorem rline_any (x : Int) (w : World) :
    Calls Try.prog 43 #[.int .i64 x] w fun e w' => e = .returned (.bool (lineB x)) ∧ w = w' := by
  go_enter Try.func43, Try.ntmps43
  go_wp2
  · go_ret; exact ⟨ret_bool (lineB_t ‹_›), rfl⟩
  · go_ret; exact ⟨ret_bool (lineB_f ‹_›), rfl⟩

set_option maxHeartbeats 400000 in
theorem rvalid_any (a b : Int) (w : World) :
    Calls Try.prog 24 #[.agg #[.int .i64 a, .int .i64 b]] w fun e w' => e = .returned (.bool (ivB a b)) ∧ Below w.heap.size w w' := by
  go_enter Try.func24, Try.ntmps24
  go_wp2_with (go_at_call 43; refine (rline_any _ _).mono ?_; rintro e w' ⟨rfl, rfl⟩)
  all_goals (go_ret; exact ⟨ret_bool (by simp [ivB, *]), (Below.refl _ _).alloc (Nat.le_refl _) _⟩)

theorem rvalid_at {a b : Int} {v : Bool} (h : ivB a b = v) (w : World) :
    Calls Try.prog 24 #[.agg #[.int .i64 a, .int .i64 b]] w fun e w' => e = .returned (.bool v) ∧ Below w.heap.size w w' := h ▸ rvalid_any a b w

theorem gline_at {x : Int} {v : Bool} (w : World) (hv : lineB x = v) :
    Calls Try.prog 50 #[.int .i64 x] w fun e w' => e = .returned (.bool v) ∧ w = w' := hv ▸ gline_any x w

theorem ghalf_at {x : Int} {v : Bool} (w : World) (hv : halfB x = v) :
    Calls Try.prog 47 #[.int .i64 x] w fun e w' => e = .returned (.bool v) ∧ w = w' := hv ▸ ghalf_any x w

end Go.Proofs.Ytnieceplfjmocaa
