/- Blue's Tune; the law's tuned; Bin beyond. -/
import Derived.Test.YtcgabjjdffcjbaaRbJ
namespace Go.Proofs.Ytcgabjjdffcjbaa
open Go.RowKit
set_option linter.unusedVariables false
set_option linter.unusedSimpArgs false

theorem lawTuned_w (target up down : Int) (w : World) :
    Calls Try.prog 26 #[.int .i64 target, .int .i64 up, .int .i64 down] w fun e w' => e = .returned (.bool (decide (0 ≤ target ∧ target ≤ 1073741824 ∧ 0 ≤ up ∧ up ≤ 65536 ∧ 0 ≤ down ∧ down ≤ 65536))) ∧ w = w' := by
  by_cases h : 0 ≤ target ∧ target ≤ 1073741824 ∧ 0 ≤ up ∧ up ≤ 65536 ∧ 0 ≤ down ∧ down ≤ 65536
  · rw [decide_eq_true h]
    obtain ⟨h1, h2, h3, h4, h5, h6⟩ := h
    go_enter Try.func26, Try.ntmps26
    go_wp2
    go_ret
    exact ⟨rfl, rfl⟩
  · rw [decide_eq_false h]
    have h' : target < 0 ∨ (0 ≤ target ∧ 1073741824 < target) ∨ ((0 ≤ target ∧ target ≤ 1073741824) ∧ up < 0) ∨ ((0 ≤ target ∧ target ≤ 1073741824) ∧ 0 ≤ up ∧ 65536 < up) ∨ (((0 ≤ target ∧ target ≤ 1073741824) ∧ 0 ≤ up ∧ up ≤ 65536) ∧ down < 0) ∨ (((0 ≤ target ∧ target ≤ 1073741824) ∧ 0 ≤ up ∧ up ≤ 65536) ∧ 0 ≤ down ∧ 65536 < down) := by omega
    clear h
    rcases h' with h | ⟨h1, h2⟩ | ⟨⟨h1, h2⟩, h3⟩ | ⟨⟨h1, h2⟩, h3, h4⟩ | ⟨⟨⟨h1, h2⟩, h3, h4⟩, h5⟩ | ⟨⟨⟨h1, h2⟩, h3, h4⟩, h5, h6⟩
    all_goals
      go_enter Try.func26, Try.ntmps26
      go_wp2
      go_ret
      refine ⟨?_, rfl⟩
      first | rfl | (refine ret_bool ?_; simp; omega)
set_option maxHeartbeats 1000000 in
theorem blueBin_high_w (B D N nl nb : Nat) (target hold up down : Int) (w : World) (hBl : Obj1 w B (blueC D N nl nb target hold up down) 77) :
    Calls Try.prog 25 #[.pointer (some ⟨B, 0, none⟩), .int .i64 nl, .int .i64 0] w fun e w' => e = .returned (.tuple #[.int .i64 0, .int .i64 0]) ∧ w = w' := by
  have c1 : w.cell? ⟨B, 1, none⟩ = some (.int .i64 nl) := hBl.cell 1
  have h0 : (0 : Int) ≤ (nl : Int) := Int.natCast_nonneg nl
  clear hBl
  go_enter Try.func25, Try.ntmps25
  go_wp2
  go_ret2
  exact ⟨rfl, rfl⟩
end Go.Proofs.Ytcgabjjdffcjbaa
