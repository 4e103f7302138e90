/- BlueAlone's walk, its setup by value. -/
import Derived.Test.YtcgabjjdffcjbaaBlueAloneW
namespace Go.Proofs.Ytcgabjjdffcjbaa
open Go.RowKit
set_option linter.unusedVariables false
set_option linter.unusedSimpArgs false

theorem open_flatW {H : Type} {enc : TypeId × Value → H} {P : Program} {w : World} {base base2 : Nat} {spare : Nat → Bool} {held : Bool} {w' : World} {r : Reach} {t : TypeId} {fs : Array Field} {ks : List Kd} {v : Value} {d : DataW H} {ps : List MemPlace} (m : Nat)
    (hu : P.underlying t = some (.struct fs)) (hks : flat P m t = some ks) (hv : Value.okWide P w' r base2 t v) (h : DataW.Trod enc P w base spare held t v d ps) : ∃ cs : Array Value, v = .agg cs ∧ okCells ks cs.toList := by
  obtain ⟨cs, rfl, _⟩ := Go.WideShapes.okWide_struct hu hv
  obtain ⟨fuel, hf⟩ := h
  exact ⟨cs, rfl, flat_ok m _ _ _ _ _ hks (by simpa [Value.cells] using hf)⟩

theorem setup_of {cs : Array Value} (h : okCells [.i .i64, .i .i64, .i .i64, .i .i64, .i .i64, .i .i64] cs.toList) :
    ∃ x0 x1 x2 x3 x4 x5, cs = setC x0 x1 x2 x3 x4 x5 ∧ (-9223372036854775808 ≤ x0 ∧ x0 ≤ 9223372036854775807) ∧ (-9223372036854775808 ≤ x1 ∧ x1 ≤ 9223372036854775807) := by
  obtain ⟨x0, h0, w0⟩ := ok_int h 0 .i64 rfl
  obtain ⟨x1, h1, w1⟩ := ok_int h 1 .i64 rfl
  obtain ⟨x2, h2, w2⟩ := ok_int h 2 .i64 rfl
  obtain ⟨x3, h3, w3⟩ := ok_int h 3 .i64 rfl
  obtain ⟨x4, h4, w4⟩ := ok_int h 4 .i64 rfl
  obtain ⟨x5, h5, w5⟩ := ok_int h 5 .i64 rfl
  have hl : cs.toList.length = 6 := h.1
  refine ⟨x0, x1, x2, x3, x4, x5, ?_, i64_range w0, i64_range w1⟩
  apply Array.ext'
  apply List.ext_getElem?
  intro i
  match i with
  | 0 => exact h0
  | 1 => exact h1
  | 2 => exact h2
  | 3 => exact h3
  | 4 => exact h4
  | 5 => exact h5
  | i + 6 => rw [List.getElem?_eq_none (by omega), List.getElem?_eq_none (by simp [setC])]

theorem BlueAlone_w (cs : Array Value) (A : Option Addr) (n c : Nat) (rows : List (List Value)) (w : World) (h : okCells [.i .i64, .i .i64, .i .i64, .i .i64, .i .i64, .i .i64] cs.toList) (hs : SlQ [.i .u8, .sl .i64, .i .i64] w A n c rows) :
    Calls Try.prog 7 #[.agg cs, .slice A n c] w fun e w' => e = .returned (.bool true) ∧ Below w.heap.size w w' := by
  obtain ⟨x0, x1, x2, x3, x4, x5, rfl, r0, r1⟩ := setup_of h
  exact BlueAlone_x x0 x1 x2 x3 x4 x5 A n c rows w r0 r1 hs
end Go.Proofs.Ytcgabjjdffcjbaa
