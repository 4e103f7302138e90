/- The walk of NumLaws: it answers true. -/
import Derived.Test.YtlbbflmdcaakkaaNumA
import Derived.Test.YtlbbflmdcaakkaaNumAwake
namespace Go.Proofs.Ytlbbflmdcaakkaa
open Go.RowKit
set_option linter.unusedVariables false
set_option linter.unusedSimpArgs false

theorem Add3_w (a b c : Int) (B : Nat) (w : World) (h0 : w.cell? ⟨B, 0, none⟩ = some (.int .i64 a)) (h1 : w.cell? ⟨B, 1, none⟩ = some (.int .i64 b)) (h2 : w.cell? ⟨B, 2, none⟩ = some (.int .i64 c)) :
    Calls Try.prog 14 #[.slice (some ⟨B, 0, none⟩) 3 3] w fun e w' => e = .returned (.int .i64 (sumL [a, b, c])) ∧ w = w' := by
  refine Add_w (some ⟨B, 0, none⟩) 3 [a, b, c] w ⟨by simp, fun j hj => ⟨_, rfl, ?_⟩⟩
  match j, hj with
  | 0, _ => exact h0
  | 1, _ => exact h1
  | 2, _ => exact h2

theorem sum_turn (a b c : Int) : sumL [a, b, c] = sumL [c, b, a] := by
  have ha := cnt_range a
  have hb := cnt_range b
  have hc := cnt_range c
  unfold sumL
  simp only [List.foldl_cons, List.foldl_nil]
  unfold plus
  repeat' split
  all_goals omega

theorem sub_back (a b : Int) (h : plus (cnt a) b ≠ 4611686018427387904) : subC (plus (cnt a) b) b = cnt a := by
  have ha := cnt_range a
  have hb := cnt_range b
  have hp := plus_range (cnt a) b ha
  unfold subC
  rw [cnt_id _ hp.1 hp.2]
  unfold plus at *
  split at h
  · exact absurd rfl h
  · rename_i h1
    rw [if_neg h1]
    split <;> omega

theorem plus_more (s c : Int) (h : 0 ≤ s ∧ s ≤ 4611686018427387904) : s ≤ plus (cnt s) c := by
  have hc := cnt_range c
  rw [cnt_id s h.1 h.2]
  unfold plus
  split <;> omega

theorem mul_turn (a b : Int) : mulC a b = mulC b a := by unfold mulC; rw [Int.mul_comm]

set_option maxHeartbeats 1000000 in
theorem NumLaws_w (a b c : Int) (w : World) (_ : (Lit.int .i64 a).wf = true) (_ : (Lit.int .i64 b).wf = true) (_ : (Lit.int .i64 c).wf = true) : Calls Try.prog 7 #[.int .i64 a, .int .i64 b, .int .i64 c] w fun e w' => e = .returned (.bool true) ∧ Below w.heap.size w w' := by
  have ha := cnt_range a
  have hb := cnt_range b
  have hm := plus_more (plus (cnt a) b) c (plus_range (cnt a) b ha)
  have e2 : (mulC a b == mulC b a) = true := beq_iff_eq.2 (mul_turn a b)
  have e3 : (sumL [a, b, c] == sumL [c, b, a]) = true := beq_iff_eq.2 (sum_turn a b c)
  by_cases hs : plus (cnt a) b = 4611686018427387904
  · have e1 := beq_iff_eq.2 hs
    clear hs
    go_enter Try.func7, Try.ntmps7
    go_wp2_with fail
    refine (awake01_w _).mono ?_
    rintro e w1 ⟨rfl, hb1⟩
    have H1 := Lib.hid hb1
    clear hb1
    go_wp2_with fail
    refine (Add2_w a b _ _ (two_cells0 _ _ _ _) (two_cells1 _ _ _ _)).mono ?_
    rintro e w' ⟨rfl, rfl⟩
    go_wp2_with fail
    refine (Add2_w (plus (cnt a) b) c _ _ (new_at (by simp) rfl) (new_at (by simp) rfl)).mono ?_
    rintro e w' ⟨rfl, rfl⟩
    go_wp2_with fail
    refine (Mul_w _ _ _).mono ?_
    rintro e w' ⟨rfl, rfl⟩
    go_wp2_with fail
    refine (Mul_w _ _ _).mono ?_
    rintro e w' ⟨rfl, rfl⟩
    go_wp2_with fail
    refine (Add3_w a b c _ _ (new_at (by simp) rfl) (new_at (by simp) rfl) (new_at (by simp) rfl)).mono ?_
    rintro e w' ⟨rfl, rfl⟩
    go_wp2_with fail
    refine (Add3_w c b a _ _ (new_at (by simp) rfl) (new_at (by simp) rfl) (new_at (by simp) rfl)).mono ?_
    rintro e w' ⟨rfl, rfl⟩
    go_wp2
    go_ret
    exact ⟨rfl, bl_alloc (bl_alloc (bl_alloc (bl_alloc H1.out _) _) _) _⟩
  · have e1 : (plus (cnt a) b == 4611686018427387904) = false := beq_eq_false_iff_ne.2 hs
    have e4 : (subC (plus (cnt a) b) b == cnt a) = true := beq_iff_eq.2 (sub_back a b hs)
    clear hs
    go_enter Try.func7, Try.ntmps7
    go_wp2_with fail
    refine (awake01_w _).mono ?_
    rintro e w1 ⟨rfl, hb1⟩
    have H1 := Lib.hid hb1
    clear hb1
    go_wp2_with fail
    refine (Add2_w a b _ _ (two_cells0 _ _ _ _) (two_cells1 _ _ _ _)).mono ?_
    rintro e w' ⟨rfl, rfl⟩
    go_wp2_with fail
    refine (Sub_w _ _ _).mono ?_
    rintro e w' ⟨rfl, rfl⟩
    go_wp2_with fail
    refine (Count_w _ _).mono ?_
    rintro e w' ⟨rfl, rfl⟩
    go_wp2_with fail
    refine (Add2_w (plus (cnt a) b) c _ _ (new_at (by simp) rfl) (new_at (by simp) rfl)).mono ?_
    rintro e w' ⟨rfl, rfl⟩
    go_wp2_with fail
    refine (Mul_w _ _ _).mono ?_
    rintro e w' ⟨rfl, rfl⟩
    go_wp2_with fail
    refine (Mul_w _ _ _).mono ?_
    rintro e w' ⟨rfl, rfl⟩
    go_wp2_with fail
    refine (Add3_w a b c _ _ (new_at (by simp) rfl) (new_at (by simp) rfl) (new_at (by simp) rfl)).mono ?_
    rintro e w' ⟨rfl, rfl⟩
    go_wp2_with fail
    refine (Add3_w c b a _ _ (new_at (by simp) rfl) (new_at (by simp) rfl) (new_at (by simp) rfl)).mono ?_
    rintro e w' ⟨rfl, rfl⟩
    go_wp2
    go_ret
    exact ⟨rfl, bl_alloc (bl_alloc (bl_alloc (bl_alloc H1.out _) _) _) _⟩
end Go.Proofs.Ytlbbflmdcaakkaa
