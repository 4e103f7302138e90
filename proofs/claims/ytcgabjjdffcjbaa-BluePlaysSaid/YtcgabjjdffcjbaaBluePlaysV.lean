/- BluePlays's walk, its setup by value. -/
import Derived.Test.YtcgabjjdffcjbaaBlueAloneV
import Derived.Test.YtcgabjjdffcjbaaBluePlaysW
namespace Go.Proofs.Ytcgabjjdffcjbaa
open Go.RowKit
set_option linter.unusedVariables false
set_option linter.unusedSimpArgs false

theorem BluePlays_w (cs : Array Value) (A : Option Addr) (n c : Nat) (rows : List (List Value)) (w : World) (h : okCells [.i .i64, .i .i64, .i .i64, .i .i64, .i .i64, .i .i64] cs.toList) (hs : SlQ [.i .u8, .sl .i64, .i .i64] w A n c rows) :
    Calls Try.prog 10 #[.agg cs, .slice A n c] w fun e w' => e = .returned (.bool true) ∧ Below w.heap.size w w' := by
  obtain ⟨x0, x1, x2, x3, x4, x5, rfl, r0, r1⟩ := setup_of h
  exact BluePlays_x x0 x1 x2 x3 x4 x5 A n c rows w r0 r1 hs
end Go.Proofs.Ytcgabjjdffcjbaa
