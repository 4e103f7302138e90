/- The walk of NumReckons: it answers true. -/
import Derived.Test.YtlbbflmdcaakkaaNumB
import Derived.Test.YtlbbflmdcaakkaaNumAwake
namespace Go.Proofs.Ytlbbflmdcaakkaa
open Go.RowKit
set_option linter.unusedVariables false
set_option linter.unusedSimpArgs false

set_option maxHeartbeats 1000000 in
theorem NumReckons_w (a b : Int) (w : World) (_ : (Lit.int .i64 a).wf = true) (_ : (Lit.int .i64 b).wf = true) : Calls Try.prog 6 #[.int .i64 a, .int .i64 b] w fun e w' => e = .returned (.bool true) ∧ Below w.heap.size w w' := by
  have ha := cnt_range a
  have hb := cnt_range b
  have e1 : (cnt a == cnt a) = true := beq_self_eq_true _
  have e2 : (plus (cnt a) b == plus (cnt a) b) = true := beq_self_eq_true _
  have e3 : (mulC a b == mulC a b) = true := beq_self_eq_true _
  have e4 : (upC a b == upC a b) = true := beq_self_eq_true _
  have e6 : (0 < cnt a - cnt b ∧ (subC a b == cnt a - cnt b) = true) ∨ (cnt a - cnt b ≤ 0 ∧ (subC a b == 0) = true) := by
    by_cases hlt : cnt b < cnt a
    · exact .inl ⟨by omega, beq_iff_eq.2 (by unfold subC; rw [if_pos hlt])⟩
    · exact .inr ⟨by omega, beq_iff_eq.2 (by unfold subC; rw [if_neg hlt])⟩
  rcases e6 with ⟨hlt, e5⟩ | ⟨hlt, e5⟩
  all_goals
    go_enter Try.func6, Try.ntmps6
    go_wp2_with fail
    refine (awake01_w _).mono ?_
    rintro e w1 ⟨rfl, hb1⟩
    have H1 := Lib.hid hb1
    clear hb1
    go_wp2_with (go_at_call 18; refine (rCount_w _ _).mono ?_; rintro e w' ⟨rfl, rfl⟩)
    refine (Count_w _ _).mono ?_
    rintro e w' ⟨rfl, rfl⟩
    go_wp2_with (go_at_call 18; refine (rCount_w _ _).mono ?_; rintro e w' ⟨rfl, rfl⟩)
    refine (Add2_w a b _ _ (two_cells0 _ _ _ _) (two_cells1 _ _ _ _)).mono ?_
    rintro e w' ⟨rfl, rfl⟩
    go_wp2_with fail
    refine (rAdd_w _ _ _).mono ?_
    rintro e w' ⟨rfl, rfl⟩
    go_wp2_with fail
    refine (Sub_w _ _ _).mono ?_
    rintro e w' ⟨rfl, rfl⟩
    go_wp2_with fail
    refine (Mul_w _ _ _).mono ?_
    rintro e w' ⟨rfl, rfl⟩
    go_wp2_with fail
    refine (rMul_w _ _ _).mono ?_
    rintro e w' ⟨rfl, rfl⟩
    go_wp2_with fail
    refine (Up_w _ _ _).mono ?_
    rintro e w' ⟨rfl, n, rfl⟩
    go_wp2_with fail
    refine (rUp_w _ _ _).mono ?_
    rintro e w' ⟨rfl, rfl⟩
    go_wp2
    go_ret
    exact ⟨rfl, bl_drewN (bl_alloc H1.out _) n⟩
end Go.Proofs.Ytlbbflmdcaakkaa
