/- Structs and arrays of plain cells that came in by value. -/
import Derived.Test.YtcgabjjdffcjbaaOpen
namespace Go.Proofs.Ytcgabjjdffcjbaa
open Go.RowKit Go.ChangeShapes Go.WideShapes
set_option linter.unusedVariables false
set_option linter.unusedSimpArgs false

theorem open_arrW {H : Type} {enc : TypeId × Value → H} {P : Program} {w : World} {base base2 : Nat} {spare : Nat → Bool} {held : Bool} {w' : World} {r : Reach} {t e : TypeId} {q : Nat} {ks : List Kd} {v : Value} {d : DataW H} {ps : List MemPlace} (m : Nat)
    (hu : P.underlying t = some (.array q e)) (hks : flat P m t = some ks) (hv : Value.okWide P w' r base2 t v) (h : DataW.Trod enc P w base spare held t v d ps) : ∃ cs : Array Value, v = .agg cs ∧ okCells ks cs.toList := by
  simp only [Value.okWide, hu] at hv
  obtain ⟨cs, rfl, _⟩ := hv
  obtain ⟨fuel, hf⟩ := h
  exact ⟨cs, rfl, flat_ok m _ _ _ _ _ hks (by simpa [Value.cells] using hf)⟩
theorem open_strW {H : Type} {enc : TypeId × Value → H} {P : Program} {w : World} {base base2 : Nat} {spare : Nat → Bool} {held : Bool} {w' : World} {r : Reach} {t : TypeId} {fs : Array Field} {ks : List Kd} {v : Value} {d : DataW H} {ps : List MemPlace} (m : Nat)
    (hu : P.underlying t = some (.struct fs)) (hks : flat P m t = some ks) (hv : Value.okWide P w' r base2 t v) (h : DataW.Trod enc P w base spare held t v d ps) : ∃ cs : Array Value, v = .agg cs ∧ okCells ks cs.toList := by
  obtain ⟨cs, rfl, _⟩ := Go.WideShapes.okWide_struct hu hv
  obtain ⟨fuel, hf⟩ := h
  exact ⟨cs, rfl, flat_ok m _ _ _ _ _ hks (by simpa [Value.cells] using hf)⟩

/-- A number of a slice that is read. -/
theorem SlI.at {k : IntKind} {w : World} {A : Option Addr} {n c : Nat} {l : List Int} (h : SlI k w A n c l) (j : Nat) (hj : j < n) : ∃ ad, A = some ad ∧ w.cell? (ad.add j) = some (.int k (nth l j)) ∧ (Lit.int k (nth l j)).wf = true := by
  have hl : j < l.length := by rw [h.1]; exact hj
  have hx : (l.map (Value.int k))[j]? = some (.int k (nth l j)) := by simp [nth, List.getD_eq_getElem?_getD, List.getElem?_eq_getElem hl]
  obtain ⟨ad, e, hc⟩ := h.2.2.2.1 j _ hx
  refine ⟨ad, e, hc, h.2.2.2.2 _ ?_⟩
  simp [nth, List.getD_eq_getElem?_getD, List.getElem?_eq_getElem hl]
theorem SlI.below {k : IntKind} {w W : World} {A : Option Addr} {n c : Nat} {l : List Int} (h : SlI k w A n c l) (hb : Below w.heap.size w W) : SlI k W A n c l := ⟨h.1, h.2.1, h.2.2.1, h.2.2.2.1.below hb, h.2.2.2.2⟩
theorem own_below {B : Nat} {e : TypeId} {k : Nat} {v : Value} {n : Nat} {xs : List Value} {w w' : World} (h : w.ownsRow B e k v n xs) (hb : Below w.heap.size w w') : w'.ownsRow B e k v n xs :=
  h.kept (row := none) ⟨hb.os, hb.tape, hb.output, hb.size, fun j hj _ => hb.block j hj⟩ (by cases hv : v.ownBlock <;> simp)

/-- Bytes as values. -/
def bys (l : List Int) : List Value := l.map (Value.int .u8)
theorem bys_length (l : List Int) : (bys l).length = l.length := by simp [bys]
theorem bys_append (l m : List Int) : bys (l ++ m) = bys l ++ bys m := by simp [bys]
theorem bys_at {l : List Int} {j : Nat} (h : j < l.length) : (bys l)[j]? = some (.int .u8 (nth l j)) := by
  simp [bys, nth, List.getD_eq_getElem?_getD, List.getElem?_eq_getElem h]
theorem bys_one (l : List Int) : ∀ u ∈ bys l, u.oneCell' = true := by
  intro u hu
  simp only [bys, List.mem_map] at hu
  obtain ⟨q, _, rfl⟩ := hu
  rfl
/-- So many bytes came in as an array. -/
theorem bytes_of {n : Nat} {cs : List Value} (h : okCells (List.replicate n (.i .u8)) cs) : ∃ l : List Int, cs = bys l ∧ l.length = n ∧ ∀ x ∈ l, 0 ≤ x ∧ x ≤ 255 := by
  have hl : cs.length = n := by rw [h.1]; simp
  have hx : ∀ j, j < n → ∃ x, cs[j]? = some (.int .u8 x) ∧ 0 ≤ x ∧ x ≤ 255 := fun j hj => by
    obtain ⟨x, hx, hw⟩ := ok_int h j .u8 (by simp [hj])
    exact ⟨x, hx, u8_range hw⟩
  refine ⟨cs.map fun v => match v with | .int _ x => x | _ => 0, ?_, by simp [hl], ?_⟩
  · apply List.ext_getElem?
    intro j
    by_cases hj : j < n
    · obtain ⟨x, h1, _⟩ := hx j hj
      simp [bys, h1]
    · rw [List.getElem?_eq_none (by omega), List.getElem?_eq_none (by simp [bys]; omega)]
  · intro x hxm
    simp only [List.mem_map] at hxm
    obtain ⟨v, hv, rfl⟩ := hxm
    obtain ⟨j, hj⟩ := List.getElem?_of_mem hv
    obtain ⟨x, h1, h2⟩ := hx j (by rw [← hl]; exact (List.getElem?_eq_some_iff.1 hj).1)
    rw [h1] at hj
    cases hj
    exact h2
end Go.Proofs.Ytcgabjjdffcjbaa
