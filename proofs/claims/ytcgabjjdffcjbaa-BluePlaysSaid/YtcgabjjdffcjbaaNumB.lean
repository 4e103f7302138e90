/- The walks of package bailiffref01: each Go function answers what a plain Lean function answers. -/
import Derived.Test.YtcgabjjdffcjbaaNumA
namespace Go.Proofs.Ytcgabjjdffcjbaa
open Go.RowKit
set_option linter.unusedVariables false
set_option linter.unusedSimpArgs false

set_option maxHeartbeats 400000 in
theorem rCount_w (n : Int) (w : World) : Calls Try.prog 50 #[.int .i64 n] w fun e w' => e = .returned (.int .i64 (cnt n)) ∧ w = w' := by
  unfold cnt
  by_cases h1 : n < 0
  · rw [if_pos h1]
    go_enter Try.func50, Try.ntmps50
    go_wp2
    go_ret
    exact ⟨rfl, rfl⟩
  · rw [if_neg h1]
    by_cases h2 : 4611686018427387904 < n
    · rw [if_pos h2]
      go_enter Try.func50, Try.ntmps50
      go_wp2
      go_ret
      exact ⟨rfl, rfl⟩
    · rw [if_neg h2]
      go_enter Try.func50, Try.ntmps50
      go_wp2
      go_ret
      exact ⟨rfl, rfl⟩

theorem u64_in (n : Int) (h0 : 0 ≤ n) (h1 : n ≤ 18446744073709551615) : IntKind.u64.wrap n = n := by
  simp only [IntKind.wrap, IntKind.signed, IntKind.bits]
  have : n % 18446744073709551616 = n := Int.emod_eq_of_lt h0 (by omega)
  simpa using this

set_option maxHeartbeats 400000 in
theorem rAdd_w (a b : Int) (w : World) : Calls Try.prog 37 #[.int .i64 a, .int .i64 b] w fun e w' => e = .returned (.int .i64 (plus (cnt a) b)) ∧ w = w' := by
  have ha := cnt_range a
  have hb := cnt_range b
  go_enter Try.func37, Try.ntmps37
  go_wp2_with (go_at_call 50; refine (rCount_w _ _).mono ?_; rintro e w' ⟨rfl, rfl⟩)
  all_goals
    go_ret
    refine ⟨ret_i64 ?_, rfl⟩
    unfold plus
    first | rw [if_pos (by omega)] | rw [if_neg (by omega)]

set_option maxHeartbeats 400000 in
theorem rMul_w (a b : Int) (w : World) : Calls Try.prog 38 #[.int .i64 a, .int .i64 b] w fun e w' => e = .returned (.int .i64 (mulC a b)) ∧ w = w' := by
  have ha := cnt_range a
  have hb := cnt_range b
  go_enter Try.func38, Try.ntmps38
  go_wp2_with (go_at_call 50; refine (rCount_w _ _).mono ?_; rintro e w' ⟨rfl, rfl⟩)
  go_loop [0, 1, 5] (fun x y o => ∃ p q r : Int, half (cnt a) (cnt b) p q r ∧ x = .int .i64 p ∧ y = .int .i64 q ∧ o = .int .i64 r) (fun _ y _ => (intOf y).toNat)
  case atStart => exact ⟨_, _, _, half_start _ _ ha hb, rfl, rfl, rfl⟩
  case round =>
    obtain ⟨p, q, r, HH, rfl, rfl, rfl⟩ := hrel
    obtain ⟨p0, p1, q0, q1, r0, r1, _⟩ := id HH
    by_cases hq : 0 < q
    · by_cases ho : q % 2 = 1
      · have hd := Lib.hid (half_odd _ _ p q r HH hq ho)
        have er := Lib.hid (cnt_id r r0 r1)
        have ep := Lib.hid (cnt_id p p0 p1)
        have ho1 := beq_iff_eq.2 ho
        clear ho
        go_wp2_with (go_at_call 37; refine (rAdd_w _ _ _).mono ?_; rintro e w' ⟨rfl, rfl⟩)
        go_round
        case rel => exact ⟨_, _, _, hd.out, by rw [ep.out], rfl, by rw [er.out]⟩
        case measure => simp [intOf]; omega
      · have hd := Lib.hid (half_even _ _ p q r HH hq (by omega))
        have ep := Lib.hid (cnt_id p p0 p1)
        have ho1 : (q % 2 == 1) = false := beq_eq_false_iff_ne.2 ho
        clear ho
        go_wp2_with (go_at_call 37; refine (rAdd_w _ _ _).mono ?_; rintro e w' ⟨rfl, rfl⟩)
        go_round
        case rel => exact ⟨_, _, _, hd.out, by rw [ep.out], rfl, rfl⟩
        case measure => simp [intOf]; omega
    · obtain rfl : q = 0 := by omega
      have he := Lib.hid (half_end _ _ p r HH)
      go_wp2
      go_ret
      exact ⟨ret_i64 he.out, rfl⟩
