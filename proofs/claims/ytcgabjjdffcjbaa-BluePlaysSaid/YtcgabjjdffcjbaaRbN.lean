/- Blue that is nil. -/
import Derived.Test.YtcgabjjdffcjbaaRbM
namespace Go.Proofs.Ytcgabjjdffcjbaa
open Go.RowKit
set_option linter.unusedVariables false
set_option linter.unusedSimpArgs false

theorem flowsNil_w (w : World) : Calls Try.prog 51 #[.pointer none, .slice none 0 0] w fun e w' => e = .returned (.bool false) ∧ w = w' := by
  go_enter Try.func51, Try.ntmps51
  go_wp2
  go_ret
  exact ⟨rfl, rfl⟩
theorem eachNil_w (f : Value) (w : World) : Calls Try.prog 40 #[.pointer none, .slice none 0 0, f] w fun e w' => e = .returned (.bool false) ∧ w = w' := by
  go_enter Try.func40, Try.ntmps40
  go_wp2_with (go_at_call 51; refine (flowsNil_w _).mono ?_; rintro e w' ⟨rfl, rfl⟩)
  go_ret
  exact ⟨rfl, rfl⟩

set_option maxHeartbeats 1000000 in
theorem putNil_w (w : World) : Calls Try.prog 21 #[.pointer none, .slice none 0 0, .int .i64 0] w fun e w' => e = .returned (.bool false) ∧ Below w.heap.size w w' := by
  go_enter Try.func21, Try.ntmps21
  go_wp2_with (go_at_call 40; refine (eachNil_w _ _).mono ?_; rintro e w' ⟨rfl, rfl⟩)
  go_ret
  exact ⟨rfl, bl_alloc (Below.refl _ _) _⟩
set_option maxHeartbeats 1000000 in
theorem markNil_w (w : World) : Calls Try.prog 24 #[.pointer none, .slice none 0 0] w fun e w' => e = .returned (.int .i64 0) ∧ Below w.heap.size w w' := by
  go_enter Try.func24, Try.ntmps24
  go_wp2_with (go_at_call 40; refine (eachNil_w _ _).mono ?_; rintro e w' ⟨rfl, rfl⟩)
  go_ret
  exact ⟨rfl, bl_alloc (Below.refl _ _) _⟩
end Go.Proofs.Ytcgabjjdffcjbaa
