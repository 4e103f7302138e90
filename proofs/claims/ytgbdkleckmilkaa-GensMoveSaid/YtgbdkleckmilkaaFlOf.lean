/- A flow that came in. -/
import Derived.Test.YtgbdkleckmilkaaKeyD
namespace Go.Proofs.Ytgbdkleckmilkaa
open Go.RowKit
set_option linter.unusedVariables false
set_option linter.unusedSimpArgs false

theorem okCells_sub {ks : List Kd} {cs : List Value} (h : okCells ks cs) (a b : Nat) : okCells ((ks.drop a).take b) ((cs.drop a).take b) := by
  refine ⟨by simp [h.1], fun j k v hk hv => ?_⟩
  rw [List.getElem?_take] at hk hv
  split at hk
  · rename_i hj
    rw [if_pos hj] at hv
    rw [List.getElem?_drop] at hk hv
    exact h.2 _ _ _ hk hv
  · cases hk
def flKs : List Kd := [.b, .i .u8] ++ List.replicate 16 (.i .u8) ++ List.replicate 16 (.i .u8) ++ [.i .u16, .i .u16]
theorem fl_of {cs : List Value} (h : okCells flKs cs) : ∃ f : Fl, okFl f ∧ cs = flC f := by
  have hl : cs.length = 36 := by rw [h.1]; rfl
  obtain ⟨v6, h0⟩ := ok_bool h 0 rfl
  obtain ⟨p, h1, wp⟩ := ok_int h 1 .u8 rfl
  obtain ⟨sp, h34, ws⟩ := ok_int h 34 .u16 rfl
  obtain ⟨dp, h35, wd⟩ := ok_int h 35 .u16 rfl
  obtain ⟨src, e1, l1, b1⟩ := bytes_of (n := 16) (cs := (cs.drop 2).take 16) (okCells_sub h 2 16)
  obtain ⟨dst, e2, l2, b2⟩ := bytes_of (n := 16) (cs := (cs.drop 18).take 16) (okCells_sub h 18 16)
  refine ⟨⟨v6, p, src, dst, sp, dp⟩, ⟨u8_range wp, l1, b1, l2, b2, u16_range ws, u16_range wd⟩, ?_⟩
  unfold flC
  rw [← e1, ← e2]
  apply List.ext_getElem?
  intro j
  by_cases hj : j < 36
  · rcases Nat.lt_or_ge j 2 with h2 | h2
    · rw [List.getElem?_append_left (by simp [hl]; omega), List.getElem?_append_left (by simp [hl]; omega), List.getElem?_append_left (by simp; omega)]
      match j, h2 with
      | 0, _ => exact h0
      | 1, _ => exact h1
    · rcases Nat.lt_or_ge j 18 with h18 | h18
      · rw [List.getElem?_append_left (by simp [hl]; omega), List.getElem?_append_left (by simp [hl]; omega), List.getElem?_append_right (by simp; omega), List.getElem?_take, if_pos (by simp; omega), List.getElem?_drop]
        congr 1
        simp
        omega
      · rcases Nat.lt_or_ge j 34 with h34' | h34'
        · rw [List.getElem?_append_left (by simp [hl]; omega), List.getElem?_append_right (by simp [hl]; omega), List.getElem?_take, if_pos (by simp [hl]; omega), List.getElem?_drop]
          congr 1
          simp [hl]
          omega
        · rw [List.getElem?_append_right (by simp [hl]; omega)]
          have hq : j = 34 ∨ j = 35 := by omega
          rcases hq with rfl | rfl
          · rw [h34]; simp [hl]
          · rw [h35]; simp [hl]
  · rw [List.getElem?_eq_none (by omega), List.getElem?_eq_none (by simp [hl]; omega)]

theorem arr_of {n : Nat} {cs : Array Value} (h : okCells (List.replicate n (.i .u8)) cs.toList) : ∃ l : List Int, cs = (bys l).toArray ∧ l.length = n ∧ ∀ x ∈ l, 0 ≤ x ∧ x ≤ 255 := by
  obtain ⟨l, h1, h2, h3⟩ := bytes_of h
  exact ⟨l, by rw [← h1], h2, h3⟩
theorem flow_of {cs : Array Value} (h : okCells flKs cs.toList) : ∃ f : Fl, okFl f ∧ cs = (flC f).toArray := by
  obtain ⟨f, h1, h2⟩ := fl_of h
  exact ⟨f, h1, by rw [← h2]⟩
end Go.Proofs.Ytgbdkleckmilkaa
