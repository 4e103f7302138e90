/- awake of bailifflaw17, and the walk of TokenPlays. -/
import Derived.Test.YtcgabjjdffcjbaaTokA
namespace Go.Proofs.Ytcgabjjdffcjbaa
open Go.RowKit
set_option linter.unusedVariables false
set_option linter.unusedSimpArgs false

set_option maxHeartbeats 2000000 in
theorem awake17_w (w : World) : Calls Try.prog 11 #[] w fun e w' => e = .returned (.bool true) ∧ Below w.heap.size w w' := by
  have q1 : tokAt 1 10485760 10485760 0 0 / 1048576 = 10 := by decide
  have q2 : tokOk (tokAt 1 10485760 10485760 0 0) 10 = true := by decide
  have q2' : tokLeft (tokAt 1 10485760 10485760 0 0) 10 = 0 := by decide
  have q2n : tokNow 0 0 = 0 := by decide
  have q3 : tokOk (tokAt 1 10485760 0 0 0) 1 = false := by decide
  have q3' : tokLeft (tokAt 1 10485760 0 0 0) 1 = 0 := by decide
  have q4 : tokOk (tokAt 1 10485760 0 0 1048576) 1 = true := by decide
  have HQ1 := Lib.hid q1
  have HQ2 := Lib.hid q2
  have HQ2' := Lib.hid q2'
  have HQ2n := Lib.hid q2n
  have HQ3 := Lib.hid q3
  have HQ3' := Lib.hid q3'
  have HQ4 := Lib.hid q4
  clear q1 q2 q2' q2n q3 q3' q4
  go_enter Try.func11, Try.ntmps11
  go_wp2_with fail
  refine (TokNew_w 1 10 _ (by omega) (by omega)).mono ?_
  rintro e w' ⟨rfl, rfl⟩
  obtain ⟨B, hB⟩ : ∃ B, B = w.heap.size := ⟨_, rfl⟩
  have O0 := Lib.hid (Obj1.new w (tok 1 (10 * 1048576) (10 * 1048576) 0) 73)
  have B0 := Lib.hid (bl_alloc (Below.refl w.heap.size w) (.cells (tok 1 (10 * 1048576) (10 * 1048576) 0) 73))
  rw [← hB] at O0
  rw [← hB]
  have HB := Lib.hid hB
  clear hB
  go_wp2_with fail
  refine (TokLevel_w B 1 (10 * 1048576) (10 * 1048576) 0 0 _ O0.out (by omega) (by omega) (by omega) (by omega)).mono ?_
  rw [show tokAt 1 (10 * 1048576) (10 * 1048576) 0 0 / 1048576 = 10 from HQ1.out]
  rintro e w1 ⟨rfl, hb1⟩
  have O1 := Lib.hid (O0.out.below hb1)
  have B1 := Lib.hid (bl_next B0.out hb1)
  clear hb1
  go_wp2_with fail
  refine (TokTake_w B 1 (10 * 1048576) (10 * 1048576) 0 0 10 _ O1.out (by omega) (by omega) (by omega) (by omega)).mono ?_
  rw [show tokOk (tokAt 1 (10 * 1048576) (10 * 1048576) 0 0) 10 = true from HQ2.out, show tokLeft (tokAt 1 (10 * 1048576) (10 * 1048576) 0 0) 10 = 0 from HQ2'.out, HQ2n.out]
  rintro e w2 ⟨rfl, ho2, hu2⟩
  have O2 := Lib.hid ho2
  have B2 := Lib.hid (bl_upd B1.out hu2 (by have := HB.out; omega))
  clear ho2 hu2
  go_wp2_with fail
  refine (TokTake_w B 1 (10 * 1048576) 0 0 0 1 _ O2.out (by omega) (by omega) (by omega) (by omega)).mono ?_
  rw [show tokOk (tokAt 1 (10 * 1048576) 0 0 0) 1 = false from HQ3.out, show tokLeft (tokAt 1 (10 * 1048576) 0 0 0) 1 = 0 from HQ3'.out, HQ2n.out]
  rintro e w3 ⟨rfl, ho3, hu3⟩
  have O3 := Lib.hid ho3
  have B3 := Lib.hid (bl_upd B2.out hu3 (by have := HB.out; omega))
  clear ho3 hu3
  go_wp2_with fail
  refine (TokTake_w B 1 (10 * 1048576) 0 0 1048576 1 _ O3.out (by omega) (by omega) (by omega) (by omega)).mono ?_
  rw [show tokOk (tokAt 1 (10 * 1048576) 0 0 1048576) 1 = true from HQ4.out]
  rintro e w4 ⟨rfl, ho4, hu4⟩
  have B4 := Lib.hid (bl_upd B3.out hu4 (by have := HB.out; omega))
  clear ho4 hu4
  go_wp2
  go_ret
  exact ⟨rfl, B4.out⟩

end Go.Proofs.Ytcgabjjdffcjbaa
