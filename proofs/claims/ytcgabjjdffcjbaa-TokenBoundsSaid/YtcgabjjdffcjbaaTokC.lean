/- The plain law of tokens: without a rate, and the bounds. -/
import Derived.Test.YtcgabjjdffcjbaaTokA
namespace Go.Proofs.Ytcgabjjdffcjbaa
open Go.RowKit
set_option linter.unusedVariables false
set_option linter.unusedSimpArgs false

theorem tokAt_zero (most level tnow now : Int) (hl : 0 ≤ level ∧ level ≤ most) (hm : most ≤ 4611686018427387904) : tokAt 0 most level tnow now = level := by
  have h0 : cnt 0 = 0 := by decide
  have hm0 : mulC (now - tnow) 0 = 0 := by unfold mulC; simp only [h0, Int.mul_zero]; decide
  unfold tokAt
  split
  · rfl
  · rw [hm0, cnt_id level hl.1 (by omega)]
    unfold plus
    rw [h0]
    repeat' split
    all_goals omega

theorem tokLeft_cases (L n : Int) : (tokOk L n = true ∧ (0 ≤ n ∧ n ≤ 1073741824) ∧ n * 1048576 ≤ L ∧ tokLeft L n = L - n * 1048576) ∨ (tokOk L n = false ∧ tokLeft L n = L) := by
  have hleft : tokLeft L n = if tokOk L n = true then L - n * 1048576 else L := rfl
  cases h : tokOk L n
  · right
    rw [hleft, h]
    simp
  · left
    rw [hleft, h]
    unfold tokOk at h
    simp at h
    simp
    omega

theorem tokNow_ge (tnow now : Int) : tnow ≤ tokNow tnow now ∧ now ≤ tokNow tnow now ∧ (tokNow tnow now = tnow ∨ tokNow tnow now = now) := by unfold tokNow; split <;> omega

theorem tokAt_full (r most level tnow now : Int) (hr : 1 ≤ r) (hl : 0 ≤ level ∧ level ≤ most) (hm : most ≤ 1125899906842624) (hd : 1152921504606846976 ≤ now - tnow) : tokAt r most level tnow now = most := by
  have hc : 1152921504606846976 ≤ cnt (now - tnow) := by unfold cnt; repeat' split; all_goals omega
  have hc2 : 1 ≤ cnt r := by unfold cnt; repeat' split; all_goals omega
  have hx : 1152921504606846976 ≤ cnt (now - tnow) * cnt r := by
    have := Int.mul_le_mul hc hc2 (by omega) (by omega)
    omega
  have hmul : 1152921504606846976 ≤ mulC (now - tnow) r := by unfold mulC; split <;> omega
  have hmu := mulC_range (now - tnow) r
  have hp : 1152921504606846976 ≤ plus (cnt level) (mulC (now - tnow) r) := by
    unfold plus
    rw [cnt_id level hl.1 (by omega), cnt_id _ hmu.1 hmu.2]
    split <;> omega
  unfold tokAt
  rw [if_neg (by omega), if_neg (by omega)]

theorem tokAt_le (r most level tnow now : Int) (hr : 0 ≤ r) (hl : 0 ≤ level ∧ level ≤ 4611686018427387904) (hm : 0 ≤ most) (ht : tnow ≤ now) : tokAt r most level tnow now ≤ level + r * (now - tnow) := by
  have hrd := Int.mul_nonneg hr (show 0 ≤ now - tnow by omega)
  have hc : cnt (now - tnow) ≤ now - tnow := by unfold cnt; repeat' split; all_goals omega
  have hc2 : cnt r ≤ r := by unfold cnt; repeat' split; all_goals omega
  have hmm := Int.mul_le_mul hc hc2 (cnt_range r).1 (by omega)
  rw [Int.mul_comm (now - tnow) r] at hmm
  have hm2 : mulC (now - tnow) r ≤ r * (now - tnow) := by unfold mulC; split <;> omega
  have hmu := mulC_range (now - tnow) r
  unfold tokAt
  split
  · omega
  · have : plus (cnt level) (mulC (now - tnow) r) ≤ level + mulC (now - tnow) r := by
      unfold plus
      rw [cnt_id level hl.1 hl.2, cnt_id _ hmu.1 hmu.2]
      split <;> omega
    split <;> omega

end Go.Proofs.Ytcgabjjdffcjbaa
