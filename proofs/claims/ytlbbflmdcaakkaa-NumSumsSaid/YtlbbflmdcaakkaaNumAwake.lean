/- What a program that does nothing answers wrongly: awake of bailifflaw01. -/
import Derived.Test.YtlbbflmdcaakkaaNumA
namespace Go.Proofs.Ytlbbflmdcaakkaa
open Go.RowKit
set_option linter.unusedVariables false
set_option linter.unusedSimpArgs false

set_option maxHeartbeats 400000 in
theorem awake01_w (w : World) : Calls Try.prog 12 #[] w fun e w' => e = .returned (.bool true) ∧ Below w.heap.size w w' := by
  have HB := Lib.hid (bl_alloc (Below.refl w.heap.size w) (.cells #[.int .i64 4611686018427387904, .int .i64 1] 2))
  have e1 : (plus (cnt 4611686018427387904) 1 == 4611686018427387904) = true := by decide
  have e2 : (upC 7 2 == 4) = true := by decide
  go_enter Try.func12, Try.ntmps12
  go_wp2_with fail
  refine (Add2_w 4611686018427387904 1 _ _ (two_cells0 _ _ _ _) (two_cells1 _ _ _ _)).mono ?_
  rintro e w' ⟨rfl, rfl⟩
  go_wp2_with fail
  refine (Up_w 7 2 _).mono ?_
  rintro e w' ⟨rfl, n, rfl⟩
  go_wp2
  go_ret
  exact ⟨rfl, bl_drewN HB.out n⟩
end Go.Proofs.Ytlbbflmdcaakkaa
