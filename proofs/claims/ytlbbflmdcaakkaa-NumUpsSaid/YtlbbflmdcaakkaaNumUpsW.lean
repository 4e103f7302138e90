/- The walk of NumUps: it answers true. -/
import Derived.Test.YtlbbflmdcaakkaaNumA
import Derived.Test.YtlbbflmdcaakkaaNumAwake
namespace Go.Proofs.Ytlbbflmdcaakkaa
open Go.RowKit
set_option linter.unusedVariables false
set_option linter.unusedSimpArgs false

/-- What is rounded up is a count. -/
theorem upC_range (a b : Int) : 0 ≤ upC a b ∧ upC a b ≤ 4611686018427387904 := by
  have ha := cnt_range a
  have hb := cnt_range b
  unfold upC
  split
  · omega
  · rename_i h0
    have hq0 : 0 ≤ cnt a / cnt b := Int.ediv_nonneg ha.1 hb.1
    have hd := Int.ediv_mul_add_emod (cnt a) (cnt b)
    have hr0 : 0 ≤ cnt a % cnt b := Int.emod_nonneg _ h0
    split
    · have : cnt a / cnt b ≤ cnt a := Int.ediv_le_self _ ha.1
      omega
    · have h1 : cnt a / cnt b * 1 ≤ cnt a / cnt b * cnt b := Int.mul_le_mul_of_nonneg_left (by omega) hq0
      omega

theorem ups_enough (a b : Int) (h : cnt b ≠ 0) : cnt a ≤ mulC (upC a b) b := by
  have ha := cnt_range a
  have hb := cnt_range b
  have hu := upC_range a b
  unfold mulC
  rw [cnt_id _ hu.1 hu.2]
  have hd := Int.ediv_mul_add_emod (cnt a) (cnt b)
  have hr0 : 0 ≤ cnt a % cnt b := Int.emod_nonneg _ h
  have hr1 : cnt a % cnt b < cnt b := Int.emod_lt_of_pos _ (by omega)
  have : cnt a ≤ upC a b * cnt b := by
    unfold upC
    rw [if_neg h]
    split
    · rw [Int.add_zero]; omega
    · rw [Int.add_mul, Int.one_mul]; omega
  split <;> omega

theorem ups_least (a b : Int) (h : cnt b ≠ 0) (h0 : upC a b ≠ 0) : mulC (upC a b - 1) b < cnt a := by
  have ha := cnt_range a
  have hb := cnt_range b
  have hu := upC_range a b
  unfold mulC
  rw [cnt_id _ (by omega) (by omega)]
  have hd := Int.ediv_mul_add_emod (cnt a) (cnt b)
  have hr0 : 0 ≤ cnt a % cnt b := Int.emod_nonneg _ h
  have hr1 : cnt a % cnt b < cnt b := Int.emod_lt_of_pos _ (by omega)
  have : (upC a b - 1) * cnt b < cnt a := by
    unfold upC
    rw [if_neg h]
    split
    · rw [Int.add_zero, Int.sub_mul, Int.one_mul]; omega
    · rw [show cnt a / cnt b + 1 - 1 = cnt a / cnt b by omega]; omega
  rw [if_neg (by omega)]
  exact this

set_option maxHeartbeats 1000000 in
theorem NumUps_w (a b : Int) (w : World) (_ : (Lit.int .i64 a).wf = true) (_ : (Lit.int .i64 b).wf = true) : Calls Try.prog 4 #[.int .i64 a, .int .i64 b] w fun e w' => e = .returned (.bool true) ∧ Below w.heap.size w w' := by
  have ha := cnt_range a
  have hb := cnt_range b
  have hu := upC_range a b
  by_cases b0 : cnt b = 0
  · have b1 := beq_iff_eq.2 b0
    have u1 := beq_iff_eq.2 (upC_no a b b0)
    clear b0
    go_enter Try.func4, Try.ntmps4
    go_wp2_with fail
    refine (awake01_w _).mono ?_
    rintro e w1 ⟨rfl, hb1⟩
    have H1 := Lib.hid hb1
    clear hb1
    go_wp2_with fail
    refine (Up_w _ _ _).mono ?_
    rintro e w' ⟨rfl, n, rfl⟩
    go_wp2_with (go_at_call 16; refine (Count_w _ _).mono ?_; rintro e w' ⟨rfl, rfl⟩)
    go_ret
    exact ⟨rfl, bl_drewN H1.out n⟩
  · have hen := mulC_cnt (upC a b) b ▸ ups_enough a b b0
    have b1 : (cnt b == 0) = false := beq_eq_false_iff_ne.2 b0
    by_cases u0 : upC a b = 0
    · have u1 := beq_iff_eq.2 u0
      clear b0 u0
      go_enter Try.func4, Try.ntmps4
      go_wp2_with fail
      refine (awake01_w _).mono ?_
      rintro e w1 ⟨rfl, hb1⟩
      have H1 := Lib.hid hb1
      clear hb1
      go_wp2_with fail
      refine (Up_w _ _ _).mono ?_
      rintro e w' ⟨rfl, n, rfl⟩
      go_wp2_with (first | (go_at_call 16; refine (Count_w _ _).mono ?_; rintro e w' ⟨rfl, rfl⟩) | (go_at_call 17; refine (Mul_w _ _ _).mono ?_; rintro e w' ⟨rfl, rfl⟩))
      go_ret
      exact ⟨rfl, bl_drewN H1.out n⟩
    · have hl := mulC_cnt (upC a b - 1) b ▸ ups_least a b b0 u0
      have u1 : (upC a b == 0) = false := beq_eq_false_iff_ne.2 u0
      clear b0 u0
      go_enter Try.func4, Try.ntmps4
      go_wp2_with fail
      refine (awake01_w _).mono ?_
      rintro e w1 ⟨rfl, hb1⟩
      have H1 := Lib.hid hb1
      clear hb1
      go_wp2_with fail
      refine (Up_w _ _ _).mono ?_
      rintro e w' ⟨rfl, n, rfl⟩
      go_wp2_with (first | (go_at_call 16; refine (Count_w _ _).mono ?_; rintro e w' ⟨rfl, rfl⟩) | (go_at_call 17; refine (Mul_w _ _ _).mono ?_; rintro e w' ⟨rfl, rfl⟩))
      go_ret
      exact ⟨rfl, bl_drewN H1.out n⟩
end Go.Proofs.Ytlbbflmdcaakkaa
