/- The plain law of tokens: without a rate, and the bounds. -/
import Derived.Test.YtcgabjjdffcjbaaTokA
namespace Go.Proofs.Ytcgabjjdffcjbaa
open Go.RowKit
set_option linter.unusedVariables false
set_option linter.unusedSimpArgs false

theorem tokAt_zero (most level tnow now : Int) (hl : 0 ≤ level ∧ level ≤ most) (hm : most ≤ 4611686018427387904) : tokAt 0 most level tnow now = level := by
  have h0 : cnt 0 = 0 := by decide
  have hm0 : mulC (now - tnow) 0 = 0 := by unfold mulC; simp only [h0, Int.mul_zero]; decide
  unfold tokAt
  split
  · rfl
  · rw [hm0, cnt_id level hl.1 (by omega)]
    unfold plus
    rw [h0]
    repeat' split
    all_goals omega

theorem tokLeft_cases (L n : Int) : (tokOk L n = true ∧ (0 ≤ n ∧ n ≤ 1073741824) ∧ n * 1048576 ≤ L ∧ tokLeft L n = L - n * 1048576) ∨ (tokOk L n = false ∧ tokLeft L n = L) := by
  have hleft : tokLeft L n = if tokOk L n = true then L - n * 1048576 else L := rfl
  cases h : tokOk L n
  · right
    rw [hleft, h]
    simp
  · left
    rw [hleft, h]
    unfold tokOk at h
    simp at h
    simp
    omega

theorem tokNow_ge (tnow now : Int) : tnow ≤ tokNow tnow now ∧ now ≤ tokNow tnow now ∧ (tokNow tnow now = tnow ∨ tokNow tnow now = now) := by unfold tokNow; split <;> omega

end Go.Proofs.Ytcgabjjdffcjbaa
