/- Blue's Tune; Bin below. -/
import Derived.Test.YtcgabjjdffcjbaaRbK
namespace Go.Proofs.Ytcgabjjdffcjbaa
open Go.RowKit
set_option linter.unusedVariables false
set_option linter.unusedSimpArgs false

set_option maxHeartbeats 1000000 in
theorem blueBin_low_w (B D N nl nb : Nat) (target hold up down : Int) (hnl : 1 ≤ nl) (w : World) (hBl : Obj1 w B (blueC D N nl nb target hold up down) 77) :
    Calls Try.prog 25 #[.pointer (some ⟨B, 0, none⟩), .int .i64 0, .int .i64 (-1)] w fun e w' => e = .returned (.tuple #[.int .i64 0, .int .i64 0]) ∧ w = w' := by
  have c1 : w.cell? ⟨B, 1, none⟩ = some (.int .i64 nl) := hBl.cell 1
  have c2 : w.cell? ⟨B, 2, none⟩ = some (.int .i64 nb) := hBl.cell 2
  have h0 : ¬ (nl : Int) ≤ 0 := by omega
  have h1 : nl ≠ 0 := by omega
  have h2 : 0 < nl := by omega
  clear hBl
  go_enter Try.func25, Try.ntmps25
  go_wp2
  go_ret2
  exact ⟨rfl, rfl⟩

set_option maxHeartbeats 1000000 in
theorem blueTune_no_w (B D N nl nb : Nat) (target hold up down t u d : Int) (w : World) (hno : ¬ (0 ≤ t ∧ t ≤ 1073741824 ∧ 0 ≤ u ∧ u ≤ 65536 ∧ 0 ≤ d ∧ d ≤ 65536)) :
    Calls Try.prog 33 #[.pointer (some ⟨B, 0, none⟩), .int .i64 t, .int .i64 u, .int .i64 d] w fun e w' => e = .returned (.bool false) ∧ w = w' := by
  have HNO := Lib.hid hno
  clear hno
  go_enter Try.func33, Try.ntmps33
  go_wp2_with (go_at_call 39; refine (blueTuned_w t u d _).mono ?_; rw [decide_eq_false HNO.out]; rintro e w' ⟨rfl, rfl⟩)
  go_ret
  exact ⟨rfl, rfl⟩

set_option maxHeartbeats 1000000 in
theorem blueTune_w (B D N nl nb : Nat) (target hold up down t u d : Int) (w : World) (hBl : Obj1 w B (blueC D N nl nb target hold up down) 77) (hyes : 0 ≤ t ∧ t ≤ 1073741824 ∧ 0 ≤ u ∧ u ≤ 65536 ∧ 0 ≤ d ∧ d ≤ 65536) :
    Calls Try.prog 33 #[.pointer (some ⟨B, 0, none⟩), .int .i64 t, .int .i64 u, .int .i64 d] w fun e w' => e = .returned (.bool true) ∧ Obj1 w' B (blueC D N nl nb t hold u d) 77 ∧ Upd B w w' := by
  have HNO := Lib.hid hyes
  have HB := Lib.hid hBl
  have f3 : w.frozen? ⟨B, 3, none⟩ = false := hBl.free 3
  have f5 : w.frozen? ⟨B, 5, none⟩ = false := hBl.free 5
  have f6 : w.frozen? ⟨B, 6, none⟩ = false := hBl.free 6
  have c3 : w.cell? ⟨B, 3, none⟩ = some (.int .i64 target) := hBl.cell 3
  have c5 : w.cell? ⟨B, 5, none⟩ = some (.int .i64 up) := hBl.cell 5
  have c6 : w.cell? ⟨B, 6, none⟩ = some (.int .i64 down) := hBl.cell 6
  clear hyes hBl
  go_enter Try.func33, Try.ntmps33
  go_wp2_with (go_at_call 39; refine (blueTuned_w t u d _).mono ?_; rw [decide_eq_true HNO.out]; rintro e w' ⟨rfl, rfl⟩)
  go_ret
  exact ⟨rfl, ((HB.out.set 3 (.int .i64 t)).set 5 (.int .i64 u)).set 6 (.int .i64 d), (((Upd.refl B w).set _ _).set _ _).set _ _⟩
end Go.Proofs.Ytcgabjjdffcjbaa
