/- The walks of package bailiffref01: each Go function answers what a plain Lean function answers. -/
import Derived.Test.YtdmfmanmhlnleaaNumA
namespace Go.Proofs.Ytdmfmanmhlnleaa
open Go.RowKit
set_option linter.unusedVariables false
set_option linter.unusedSimpArgs false

set_option maxHeartbeats 400000 in
theorem rCount_w (n : Int) (w : World) : Calls Try.prog 20 #[.int .i64 n] w fun e w' => e = .returned (.int .i64 (cnt n)) ∧ w = w' := by
  unfold cnt
  by_cases h1 : n < 0
  · rw [if_pos h1]
    go_enter Try.func20, Try.ntmps20
    go_wp2
    go_ret
    exact ⟨rfl, rfl⟩
  · rw [if_neg h1]
    by_cases h2 : 4611686018427387904 < n
    · rw [if_pos h2]
      go_enter Try.func20, Try.ntmps20
      go_wp2
      go_ret
      exact ⟨rfl, rfl⟩
    · rw [if_neg h2]
      go_enter Try.func20, Try.ntmps20
      go_wp2
      go_ret
      exact ⟨rfl, rfl⟩

theorem u64_in (n : Int) (h0 : 0 ≤ n) (h1 : n ≤ 18446744073709551615) : IntKind.u64.wrap n = n := by
  simp only [IntKind.wrap, IntKind.signed, IntKind.bits]
  have : n % 18446744073709551616 = n := Int.emod_eq_of_lt h0 (by omega)
  simpa using this

set_option maxHeartbeats 400000 in
theorem rAdd_w (a b : Int) (w : World) : Calls Try.prog 16 #[.int .i64 a, .int .i64 b] w fun e w' => e = .returned (.int .i64 (plus (cnt a) b)) ∧ w = w' := by
  have ha := cnt_range a
  have hb := cnt_range b
  go_enter Try.func16, Try.ntmps16
  go_wp2_with (go_at_call 20; refine (rCount_w _ _).mono ?_; rintro e w' ⟨rfl, rfl⟩)
  all_goals
    go_ret
    refine ⟨ret_i64 ?_, rfl⟩
    unfold plus
    first | rw [if_pos (by omega)] | rw [if_neg (by omega)]
