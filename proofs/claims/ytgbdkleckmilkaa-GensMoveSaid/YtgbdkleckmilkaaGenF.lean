/- Steps, one behind the other. -/
import Derived.Test.YtgbdkleckmilkaaGenE
namespace Go.Proofs.Ytgbdkleckmilkaa
open Go.RowKit
set_option linter.unusedVariables false
set_option linter.unusedSimpArgs false

/-- Behind so many calls of Step. -/
def gnRun (g : Gn) : Nat → Gn
  | 0 => g
  | j + 1 => if (gnRun g j).mv = true then gnStep (gnRun g j) else gnRun g j
theorem run_false {g : Gn} (h : g.mv = false) : ∀ j, gnRun g j = g
  | 0 => rfl
  | j + 1 => by
    unfold gnRun
    rw [run_false h j, h]
    rfl
theorem run_lt {g : Gn} (h : g.mv = true) (hm : g.md = 0) : ∀ j, j < g.bk → gnRun g j = { g with md := j }
  | 0, _ => by show g = _; rw [← hm]
  | j + 1, hj => by
    unfold gnRun
    rw [run_lt h hm j (by omega)]
    show (if g.mv = true then gnStep { g with md := j } else _) = _
    rw [if_pos h]
    unfold gnStep
    rw [if_neg (by show ¬ j + 1 = g.bk; omega)]
theorem run_end {g : Gn} (h : g.mv = true) (hm : g.md = 0) (hb : 1 ≤ g.bk) : gnRun g g.bk = { g with mv := false, old := 1 - g.old, md := g.bk, ep := g.ep + 1 } := by
  obtain ⟨k, hk⟩ : ∃ k, g.bk = k + 1 := ⟨g.bk - 1, by omega⟩
  have h1 : gnRun g (k + 1) = if (gnRun g k).mv = true then gnStep (gnRun g k) else gnRun g k := rfl
  have e : gnRun g g.bk = gnRun g (k + 1) := by rw [hk]
  rw [e, h1, run_lt h hm k (by omega)]
  show (if g.mv = true then gnStep { g with md := k } else _) = _
  rw [if_pos h]
  unfold gnStep
  rw [if_pos (by show k + 1 = g.bk; omega)]
  show ({ g with mv := false, old := 1 - g.old, md := k + 1, ep := g.ep + 1 } : Gn) = _
  rw [← hk]
theorem run_ge {g : Gn} (h : g.mv = true) (hm : g.md = 0) (hb : 1 ≤ g.bk) : ∀ j, gnRun g (g.bk + j) = { g with mv := false, old := 1 - g.old, md := g.bk, ep := g.ep + 1 }
  | 0 => run_end h hm hb
  | j + 1 => by
    have h1 : gnRun g (g.bk + (j + 1)) = if (gnRun g (g.bk + j)).mv = true then gnStep (gnRun g (g.bk + j)) else gnRun g (g.bk + j) := rfl
    rw [h1, run_ge h hm hb j]
    rfl
/-- One that has not moved yet, or does not. -/
def gnFresh (g : Gn) : Prop := okGn g ∧ g.md = 0 ∧ g.ep ≤ 1000
theorem run_ok {g : Gn} (h : gnFresh g) (j : Nat) : okGn (gnRun g j) ∧ ((gnRun g j).mv = true → (gnRun g j).md < (gnRun g j).bk) ∧ (gnRun g j).bk = g.bk ∧ ((gnRun g j).mv = (g.mv && decide (j < g.bk))) := by
  obtain ⟨hg, hm, he⟩ := h
  cases hmv : g.mv
  · rw [run_false hmv]
    exact ⟨hg, (fun h => by rw [hmv] at h; cases h), rfl, by rw [hmv]; rfl⟩
  · by_cases hj : j < g.bk
    · rw [run_lt hmv hm j hj]
      refine ⟨⟨hg.1, hg.2.1, hg.2.2.1, hg.2.2.2.1, by show j ≤ g.bk; omega, hg.2.2.2.2.2⟩, fun _ => hj, rfl, ?_⟩
      show g.mv = _
      rw [hmv]
      simp [hj]
    · obtain ⟨k, rfl⟩ : ∃ k, j = g.bk + k := ⟨j - g.bk, by omega⟩
      rw [run_ge hmv hm hg.1.1 k]
      refine ⟨⟨hg.1, hg.2.1, hg.2.2.1, by show 1 - g.old ≤ 1; omega, Nat.le_refl _, by show 0 ≤ g.ep + 1; have := hg.2.2.2.2.2; omega, by show g.ep + 1 ≤ 1000000; omega⟩, (fun h => by cases h), rfl, ?_⟩
      show false = _
      simp

set_option maxHeartbeats 1000000 in
theorem stepAny_w (G : Nat) (g : Gn) (hg : okGn g) (hmd : g.mv = true → g.md < g.bk) (w : World) (h : Obj1 w G (gnC g).toArray 75) :
    Calls Try.prog 26 #[.pointer (some ⟨G, 0, none⟩)] w fun e w' => (∃ x b, e = .returned (.tuple #[.int .i64 x, .bool b])) ∧ Obj1 w' G (gnC (if g.mv = true then gnStep g else g)).toArray 75 ∧ Upd G w w' := by
  cases hmv : g.mv
  · refine (step_no_w G g hg hmv w h).mono ?_
    rintro e w' ⟨rfl, rfl⟩
    exact ⟨⟨_, _, rfl⟩, by simpa using h, Upd.refl _ _⟩
  · refine (step_w G g hg hmv (hmd hmv) w h).mono ?_
    rintro e w' ⟨rfl, h1, h2⟩
    exact ⟨⟨_, _, rfl⟩, by simpa using h1, h2⟩
theorem gen_le {g : Gn} (hg : okGn g) (f : Fl) : gnGen g f ≤ 1 ∧ (gnGen g f = g.old ∨ gnGen g f = 1 - g.old ∧ g.mv = true) := by
  have := hg.2.2.2.1
  unfold gnGen
  by_cases h : g.mv = false ∨ (g.md : Int) ≤ gnFall g f
  · rw [if_pos h]
    exact ⟨by omega, .inl rfl⟩
  · rw [if_neg h]
    refine ⟨by omega, .inr ⟨rfl, ?_⟩⟩
    cases hm : g.mv
    · exact absurd (.inl hm) h
    · rfl
theorem fresh_new {n : Nat} (hn : 1 ≤ n ∧ n ≤ 64) {key : List Int} (hk : okKey key) : gnFresh ⟨n, key, List.replicate 16 0, 0, false, 0, 0⟩ :=
  ⟨⟨hn, hk, ⟨by simp, fun x hx => by have h : x = 0 := List.eq_of_mem_replicate hx; subst h; decide⟩, Nat.zero_le _, Nat.zero_le _, ⟨Int.le_refl 0, show (0 : Int) ≤ 1000000 by decide⟩⟩, rfl, show (0 : Int) ≤ 1000 by decide⟩
theorem fresh_re {g : Gn} (h : okGn g) (he : g.ep ≤ 1000) {key : List Int} (hk : okKey key) : gnFresh (gnRe g key) ∧ (gnRe g key).mv = true ∧ (gnRe g key).bk = g.bk := by
  have h1 := ok_with h (1 - g.old) hk
  have e1 : (gnWith g (1 - g.old) key).ep = g.ep := by unfold gnWith; split <;> rfl
  have e2 : (gnWith g (1 - g.old) key).bk = g.bk := by unfold gnWith; split <;> rfl
  refine ⟨⟨⟨h1.1, h1.2.1, h1.2.2.1, h1.2.2.2.1, Nat.zero_le _, h1.2.2.2.2.2⟩, rfl, ?_⟩, rfl, e2⟩
  show (gnWith g (1 - g.old) key).ep ≤ 1000
  rw [e1]
  exact he
end Go.Proofs.Ytgbdkleckmilkaa
